/-
  resv: what (*Table).All hands back, as an iterator: it tells all, by rising peers. Conditions: as the theorem states them.
-/
import Derived.Test.YtglpjoijkinlbaaRj
import Derived.Test.YtglpjoijkinlbaaRe
import Derived.RangeFuncKeeps
import Derived.RangeFuncBox
import Derived.RangeFuncLeaves
import Derived.RangeFuncCalls
import Derived.RangeFuncBound
import Derived.RangeFuncNested
import Derived.BigRegion
namespace Go.Proofs.Ytglpjoijkinlbaa.Rv
open Go.RowKit Go.Maps Go.Shelf Go.Sort Go.Proofs.YtglpjoijkinlbaaW.PrintWords Go.Proofs.YtglpjoijkinlbaaW.PrintLast Go.Proofs.YtglpjoijkinlbaaW.PrintMore
set_option linter.unusedVariables false
set_option linter.unusedSimpArgs false
attribute [local go_sem] Oper.semAt_some
def KeepS (S : Nat → Prop) (W W' : World) : Prop := W.heap.size ≤ W'.heap.size ∧ ∀ b, S b → W'.heap[b]? = W.heap[b]?
theorem KeepS.refl (S : Nat → Prop) (W : World) : KeepS S W W := ⟨Nat.le_refl _, fun _ _ => rfl⟩
theorem KeepS.trans {S : Nat → Prop} {A B C : World} (h : KeepS S A B) (k : KeepS S B C) : KeepS S A C := ⟨Nat.le_trans h.1 k.1, fun b h1 => (k.2 b h1).trans (h.2 b h1)⟩
theorem KeepS.cell {S : Nat → Prop} {W W' : World} (h : KeepS S W W') {p : Addr} (h1 : S p.block) : W'.cell? p = W.cell? p := World.cell?_of_block (w := W) (h.2 p.block h1)
theorem KeepS.setCell {S : Nat → Prop} {W : World} {p : Addr} (h : ¬ S p.block) (v : Value) : KeepS S W (W.setCell p v) := ⟨by simp [World.setCell], fun b h1 => Below.heap_setCell _ _ _ _ (fun e => h (e ▸ h1))⟩
theorem KeepS.below {S : Nat → Prop} {B : Nat} {W W' : World} (h : Below B W W') (hS : ∀ b, S b → b < B) : KeepS S W W' := ⟨h.size, fun b h2 => h.block b (hS b h2)⟩
theorem KeepS.put {S : Nat → Prop} (W : World) (l : Nat) (o o' : Obj) (hl : ¬ S l) (h : W.heap[l]? = some o) : KeepS S W (W.putObj l o') :=
  ⟨(Below.refl 0 W).grown (grownBy_putObj' W l o') (Nat.zero_le _) (fun _ _ => Nat.zero_le _) |>.size, fun b h2 => by
    by_cases hlt : b < W.heap.size
    · exact (grownBy_putObj' W l o').block b hlt (fun e => by cases e; exact hl h2)
    · have hl' := (Array.getElem?_eq_some_iff.1 h).1
      have hs : (W.putObj l o').heap.size = W.heap.size := by simp [World.putObj]
      rw [Array.getElem?_eq_none (by omega), Array.getElem?_eq_none (by omega)]⟩
theorem KeepS.grown {S : Nat → Prop} {W0 X Y : World} {row : Option Nat} (h : KeepS S W0 X) (hS : ∀ b, S b → b < W0.heap.size) (hg : X.grownBy Y row) (hr : ∀ r, row = some r → ¬ S r) : KeepS S W0 Y :=
  ⟨Nat.le_trans h.1 hg.size, fun b hb => (hg.block b (Nat.lt_of_lt_of_le (hS b hb) h.1) (fun e => hr b e.symm hb)).trans (h.2 b hb)⟩
theorem KeepS.boxed {S : Nat → Prop} {W W' : World} {B : Nat} {t : TypeId} {v : Value} (h : KeepS S W W') (hB : S B) (hb : Boxed W B t v) : Boxed W' B t v := (h.2 B hB).trans hb
theorem get_mem {L : List HeldP} (hr : Ris L) {q : HeldP} (h : q ∈ L) : getL L q.1 = q := by
  unfold getL
  have hf : L.find? (fun x => decide (x.1 = q.1)) = some q := by
    induction L with
    | nil => cases h
    | cons x r ih =>
      obtain ⟨h1, h2⟩ := List.pairwise_cons.1 hr
      rcases List.mem_cons.1 h with rfl | h
      · simp
      · have := h1 q h
        rw [List.find?_cons, decide_eq_false (by omega)]
        exact ih h2 h
  rw [hf]
  rfl
abbrev encsH (q : HeldP) : Array Value := #[.agg (heldC q)]
set_option maxRecDepth 100000 in
set_option maxHeartbeats 4000000 in
theorem all_stops (n : Nat) (hn : 1 ≤ n) (S : Nat → Prop) (p1 p2 b2 nn : Nat) (A : Option Addr) (c : Nat) (L : List HeldP) (w : World) (h1 : S p1) (h2 : S p2) (h3 : S b2) (hN : ∀ b, S b → b < w.heap.size)
    (c1 : w.cell? ⟨p1, 0, none⟩ = some (.slice A L.length c)) (c2 : w.cell? ⟨p2, 0, none⟩ = some (.map (some b2))) (hown : w.ownsMap Try.prog 3 heldR b2 nn (encL L)) (hr : Ris L) (hl : L.length ≤ 1000000) (hI : ∀ q ∈ L, I64 q.1)
    (hf : ∀ V, KeepS S w V → ∀ i (h : i < L.length), ∃ ad, A = some ad ∧ V.cell? (ad.add i) = some (.int .i64 L[i].1)) :
    SeqStopsK Fence.wide n Try.prog 17 #[.pointer (some ⟨p1, 0, none⟩), .pointer (some ⟨p2, 0, none⟩)] encsH (KeepS S) (fun xs => xs = L) (fun xs => ∃ r, xs ++ r = L) 2000000 w := fun lp J Jx W hW hJ hJx hY h0 => by
  have hkw : KeepS S w W := KeepS.below hW hN
  have hNW : ∀ b, S b → b < W.heap.size := fun b hb => Nat.lt_of_lt_of_le (hN b hb) hW.size
  have Hf := Lib.hid hf
  have Hkw := Lib.hid hkw
  have Hc1 := Lib.hid c1
  have Hc2 := Lib.hid c2
  have Hown := Lib.hid hown
  have Hr := Lib.hid hr
  have HI := Lib.hid hI
  obtain ⟨m, hm⟩ : ∃ m, L.length = m := ⟨_, rfl⟩
  have HM := Lib.hid hm
  have Hl := Lib.hid hl
  rw [hm] at c1
  have e1 := (hkw.cell (p := ⟨p1, 0, none⟩) h1).trans c1
  clear hf hkw c1 c2 hW hJx hown hr hI hm hl
  refine callsIn_of_wp Try.func17 rfl trivial ?_ rfl
  simp only [Try.ntmps17, List.size_toArray, List.length_cons, List.length_nil, Nat.reduceAdd, Nat.reduceSub, Array.replicate_succ, Array.replicate_zero, List.push_toArray, List.append_toArray, List.nil_append, List.cons_append]
  gi_wp2
  clear e1
  gi_loopw [8] (fun v8 wr => ∃ i : Nat, v8 = .int .i64 i ∧ i ≤ m ∧ J (L.take i) wr ∧ KeepS S W wr) (fun v8 _ => m - (intOf v8).toNat)
  case atStart => exact ⟨0, rfl, Nat.zero_le _, by rw [List.take_zero]; exact h0, KeepS.refl _ _⟩
  case round =>
    obtain ⟨i, rfl, hi, hJs, hkp⟩ := hrel
    have hml := Hl.out
    rw [HM.out] at hml
    by_cases hlt : i < m
    · have hb1 : decide ((i : Int) < (m : Int)) = true := decide_eq_true (by omega)
      have hiL : i < L.length := by rw [HM.out]; exact hlt
      have hkwr := Hkw.out.trans hkp
      obtain ⟨ad, hA, hx⟩ := Hf.out wr hkwr i hiL
      obtain ⟨q, hq⟩ : ∃ q, L[i] = q := ⟨_, rfl⟩
      have hmem : q ∈ L := by rw [← hq]; exact List.getElem_mem hiL
      rw [hq] at hx
      subst hA
      have e2 := (hkwr.cell (p := ⟨p2, 0, none⟩) h2).trans Hc2.out
      have hown' : wr.ownsMap Try.prog 3 heldR b2 nn (encL L) := by
        obtain ⟨es, clock, hb, Ft, hs, hD⟩ := Hown.out
        exact ⟨es, clock, (hkwr.2 b2 h3).trans hb, Ft, hs, hD⟩
      obtain ⟨v, ps, hrun, hv⟩ := hown'.lookup K3 Try.underlying49 (zeroH wr) (heldR_mk (0, 0, 0)) (key_of (HI.out q hmem))
      rw [enc_at, get_mem Hr.out hmem] at hv
      obtain ⟨q', rfl, hq'⟩ := heldR_inv hv
      have hq' := encD_inj (congrArg Prod.fst hq')
      subst hq'
      have htk : L.take (i + 1) = L.take i ++ [q] := by rw [List.take_add_one, List.getElem?_eq_getElem hiL, hq]; rfl
      clear hown' hv hmem
      obtain ⟨fn, tmps, assign, body, hy, hR⟩ := hY (L.take i) q wr hJs (by rw [List.length_take]; omega)
      dsimp only [encsH] at hy
      gi_wp2
      refine hR.mono ?_
      rintro r W3 (⟨rfl, hJ3, hk3⟩ | ⟨rfl, hJx3⟩)
      · gi_wp2
        go_roundw
        case rel => exact ⟨i + 1, rfl, by omega, by rw [htk]; exact hJ3, hkp.trans hk3⟩
        case measure => simp [intOf]; omega
      · gi_wp2
        refine bodyPost_ret (results_none rfl _ _ _) rfl ?_
        exact ⟨⟨_, rfl⟩, .inr ⟨L.take i ++ [q], ⟨L.drop (i + 1), by rw [← htk, List.take_append_drop]⟩, hJx3⟩⟩
    · have hb1 : decide ((i : Int) < (m : Int)) = false := decide_eq_false (by omega)
      gi_wp2
      refine bodyPost_end (results_none rfl _ _ _) rfl ?_
      exact ⟨⟨_, rfl⟩, .inl ⟨L, rfl, by rw [List.take_of_length_le (by rw [HM.out]; omega)] at hJs; exact hJs⟩⟩
end Go.Proofs.Ytglpjoijkinlbaa.Rv
