/-
  The iterator back.Times: for every plan and every loop body: the times, one by one.
-/
import Derived.RangeFuncNested
import Derived.RangeFuncBound
import Derived.RangeFuncCalls
import Derived.RangeFuncLeaves
import Derived.Shelf.Abstract
import Derived.Shelf.RegionOpen
import Derived.WalkKit
import Derived.OwnWalkIn
import Derived.TacticsInMore
import Derived.LoopNIn
import Derived.LoopIn
import Derived.Deep.QuietTactic
import Derived.BigQuiet
import Derived.Lib.Hide
import Derived.Outline
import Derived.Test.YtnhlmmiocbkpjaaPureTm
namespace Go.Proofs.Ytnhlmmiocbkpjaa.Tm
open Go.RowKit Go.Shelf Go.Proofs.Ytnhlmmiocbkpjaa.PBackTimes Go.Proofs.YtnhlmmiocbkpjaaW.PrintWords Go.Proofs.YtnhlmmiocbkpjaaW.PrintLast Go.Proofs.YtnhlmmiocbkpjaaW.PrintMore

attribute [local go_sem] Oper.semAt_some

/-! ### what a loop over an iterator wants, whatever the program -/
/-- The blocks from lo on and below hi lie as they lay. -/
def KeepIn (lo hi : Nat) (W W' : World) : Prop := W.heap.size ≤ W'.heap.size ∧ ∀ b, lo ≤ b → b < hi → W'.heap[b]? = W.heap[b]?
theorem KeepIn.refl (lo hi : Nat) (W : World) : KeepIn lo hi W W := ⟨Nat.le_refl _, fun _ _ _ => rfl⟩
theorem KeepIn.trans {lo hi : Nat} {A B C : World} (h : KeepIn lo hi A B) (k : KeepIn lo hi B C) : KeepIn lo hi A C := ⟨Nat.le_trans h.1 k.1, fun b h1 h2 => (k.2 b h1 h2).trans (h.2 b h1 h2)⟩
theorem KeepIn.cell {lo hi : Nat} {W W' : World} (h : KeepIn lo hi W W') {p : Addr} (h1 : lo ≤ p.block) (h2 : p.block < hi) : W'.cell? p = W.cell? p := World.cell?_of_block (w := W) (h.2 p.block h1 h2)
theorem KeepIn.setCell {lo hi : Nat} {W : World} {p : Addr} (h : p.block < lo ∨ hi ≤ p.block) (v : Value) : KeepIn lo hi W (W.setCell p v) := ⟨by simp [World.setCell], fun b h1 h2 => Below.heap_setCell _ _ _ _ (by omega)⟩
theorem KeepIn.below {lo hi B : Nat} {W W' : World} (h : Below B W W') (hh : hi ≤ B) : KeepIn lo hi W W' := ⟨h.size, fun b _ h2 => h.block b (by omega)⟩
theorem KeepIn.put {lo hi : Nat} (W : World) (l : Nat) (o o' : Obj) (hl : hi ≤ l) (h : W.heap[l]? = some o) : KeepIn lo hi W (W.putObj l o') :=
  ⟨(Below.refl 0 W).grown (grownBy_putObj' W l o') (Nat.zero_le _) (fun _ _ => Nat.zero_le _) |>.size, fun b _ h2 => (grownBy_putObj' W l o').block b (by have := (Array.getElem?_eq_some_iff.1 h).1; omega) (fun e => by cases e; omega)⟩
theorem grownBy_drewN (W : World) (n : Nat) (row : Option Nat) : W.grownBy (W.drewN n) row := ⟨rfl, rfl, rfl, Nat.le_refl _, fun _ _ _ => rfl⟩
theorem abides_drewN {β : Type} {B : Nat} {J : β → World → Prop} (hJ : AbidesFrom B J) {s : β} {W : World} (h : J s W) (n : Nat) : J s (W.drewN n) := hJ s W _ none h (grownBy_drewN W n none) (fun _ e => by cases e)
theorem abides_below {β : Type} {B : Nat} {J : β → World → Prop} (hJ : AbidesFrom B J) {s : β} {W W' : World} (h : J s W) (hb : Below W.heap.size W W') : J s W' :=
  hJ s W W' none h ⟨hb.os, hb.tape, hb.output, hb.size, fun k hk _ => hb.block k hk⟩ (fun _ e => by cases e)

abbrev encs2 (p : Int × Int) : Array Value := #[.int .i64 p.1, .int .i64 p.2]
def el (f m s : Int) (i : Nat) : Int × Int := ((i : Int), atT f m s i)
def tl (f m s : Int) (k : Nat) : List (Int × Int) := (List.range k).map (el f m s)
theorem tl_succ (f m s : Int) (k : Nat) : tl f m s (k + 1) = tl f m s k ++ [el f m s k] := by simp [tl, List.range_succ]
theorem tl_length (f m s : Int) (k : Nat) : (tl f m s k).length = k := by simp [tl]
/-- What has come when all have come. -/
def TAll (f m s : Int) (xs : List (Int × Int)) : Prop := (Tk f m s ∧ ∃ k, xs = tl f m s k ∧ 1099511627776 < atT f m s k) ∨ (¬ Tk f m s ∧ xs = [])
/-- What has come when a round has said 'no more'. -/
def TPre (f m s : Int) (xs : List (Int × Int)) : Prop := Tk f m s ∧ ∃ k, xs = tl f m s k ∧ ∀ j, j < k → atT f m s j ≤ 1099511627776

set_option maxRecDepth 100000 in
set_option maxHeartbeats 2000000 in
theorem times_stops_of {β : Type} (v : β → Int × Int) (mk : ∀ i a : Int, 0 ≤ i → i ≤ 1099511627776 → 0 ≤ a → a ≤ 1099511627776 → ∃ x : β, v x = (i, a)) (n : Nat) (hn : 1 ≤ n) (B : Nat) (f m s : Int) (w : World) (hB : B + 3 ≤ w.heap.size) (c1 : w.cell? ⟨B, 0, none⟩ = some (.int .i64 f)) (c2 : w.cell? ⟨B + 1, 0, none⟩ = some (.int .i64 m)) (c3 : w.cell? ⟨B + 2, 0, none⟩ = some (.int .i64 s)) :
    SeqStopsK Fence.wide n Try.prog 17 #[.pointer (some ⟨B, 0, none⟩), .pointer (some ⟨B + 1, 0, none⟩), .pointer (some ⟨B + 2, 0, none⟩)] (fun x => encs2 (v x)) (KeepIn B (B + 3)) (fun xs => TAll f m s (xs.map v)) (fun xs => TPre f m s (xs.map v)) 2000000000000 w := fun l J Jx W hW hJ hJx hY h0 => by
  have d1 : W.cell? ⟨B, 0, none⟩ = some (.int .i64 f) := (hW.cell (by show B < w.heap.size; omega)).trans c1
  have d2 : W.cell? ⟨B + 1, 0, none⟩ = some (.int .i64 m) := (hW.cell (by show B + 1 < w.heap.size; omega)).trans c2
  have d3 : W.cell? ⟨B + 2, 0, none⟩ = some (.int .i64 s) := (hW.cell (by show B + 2 < w.heap.size; omega)).trans c3
  clear hW c1 c2 c3 hJx
  refine callsIn_of_wp Try.func17 rfl trivial ?_ rfl
  simp only [Try.ntmps17, List.size_toArray, List.length_cons, List.length_nil, Nat.reduceAdd, Nat.reduceSub, Array.replicate_succ, Array.replicate_zero, List.push_toArray, List.append_toArray, List.nil_append, List.cons_append]
  by_cases ho : Tk f m s
  · have hmay := may_yes ho.1
    have Hm := Lib.hid hmay
    clear hmay
    have g1 := ho.2.1
    have g2 := ho.2.2
    have Ho := Lib.hid ho
    clear ho
    gi_wp2_with (refine ⟨trivial, ?_⟩; gi_at_call 15; refine (callsIn_wide.2 (back_may.calls f m true _ Hm.out)).mono ?_; rintro e w1 ⟨rfl, ⟨⟨nq, rfl⟩⟩⟩)
    gi_region
    all_goals gi_wp2
    gi_loopw [5, 6, 7] (fun v5 v6 v7 wr => ∃ i : Nat, v5 = .int .i64 (s + sm m f i) ∧ v6 = .int .i64 (it m f i) ∧ v7 = .int .i64 i ∧ s + sm m f i ≤ 1099511627776 ∧ (∃ pre : List β, Hid (pre.map v = tl f m s i) ∧ J pre wr) ∧ KeepIn B (B + 3) W wr ∧ Hid (∀ j, j < i → atT f m s j ≤ 1099511627776)) (fun v5 _ _ _ => (1099511627776 - intOf v5).toNat)
    case atStart => exact ⟨0, by simp [sm], rfl, rfl, by simp only [sm]; omega, ⟨[], Lib.hid rfl, abides_drewN hJ (abides_drewN hJ h0 nq) 1⟩, ⟨Nat.le_refl _, fun _ _ _ => rfl⟩, fun j hj => by omega⟩
    case round =>
      obtain ⟨i, rfl, rfl, rfl, hi, ⟨pre, Hpre, hJs⟩, hkp, Hlt⟩ := hrel
      have Hplen := Lib.hid (show pre.length = i by have := congrArg List.length Hpre.out; rwa [List.length_map, tl_length] at this)
      have hb := it_bd m f Ho.out.1.1 Ho.out.1.2.1 i
      have hb1 : 1 ≤ it m f i := by have := Ho.out.1.1; omega
      have hb2 : it m f i ≤ 1099511627776 := by have := Ho.out.1.2.2; omega
      have hs1 := sm_ge Ho.out.1 i
      have hs0 : 0 ≤ s + sm m f i := by omega
      have hii : (i : Int) ≤ 1099511627776 := by omega
      have hm1 : m ≤ 1099511627776 := Ho.out.1.2.2
      have hm2 : 1 ≤ m := by omega
      have e2 : wr.cell? ⟨B + 1, 0, none⟩ = some (.int .i64 m) := (hkp.cell (by simp) (by simp)).trans d2
      have Hsucc := Lib.hid (show atT f m s i = s + sm m f i + it m f i by unfold atT; rw [sm]; omega)
      clear hb
      by_cases hc : s + sm m f i + it m f i ≤ 1099511627776
      · have hcb : decide (1099511627776 < s + sm m f i + it m f i) = false := decide_eq_false (by omega)
        obtain ⟨x, hx⟩ := mk (i : Int) (s + sm m f i + it m f i) (by omega) (by omega) (by omega) hc
        obtain ⟨fn, tmps, assign, body, hy, hR⟩ := hY pre x wr hJs (by rw [Hplen.out]; omega)
        rw [hx] at hy
        have Hx := Lib.hid (show (pre ++ [x]).map v = tl f m s (i + 1) by rw [List.map_append, Hpre.out, tl_succ, el, Hsucc.out, List.map_singleton, hx])
        clear hx
        dsimp only [encs2] at hy
        gi_wp2
        refine hR.mono ?_
        rintro e W3 (⟨rfl, hJ3, hk3⟩ | ⟨rfl, hJx3⟩)
        · have e2' : W3.cell? ⟨B + 1, 0, none⟩ = some (.int .i64 m) := (hk3.cell (by simp) (by simp)).trans e2
          gi_wp2
          go_roundw
          case rel => exact ⟨i + 1, by rw [← Hsucc.out, atT], by rw [it_succ]; rfl, (by simp), (by have e := Hsucc.out; unfold atT at e; omega), ⟨pre ++ [x], Hx, hJ3⟩, hkp.trans hk3, fun j hj => by by_cases ej : j = i; subst ej; rw [Hsucc.out]; exact hc; exact Hlt.out j (by omega)⟩
          case measure => simp [intOf]; omega
        · gi_wp2
          refine bodyPost_ret (results_none rfl _ _ _) rfl ?_
          exact ⟨⟨_, rfl⟩, .inr ⟨pre ++ [x], ⟨Ho.out, i + 1, Hx.out, fun j hj => by by_cases ej : j = i; subst ej; rw [Hsucc.out]; exact hc; exact Hlt.out j (by omega)⟩, hJx3⟩⟩
      · have hcb : decide (1099511627776 < s + sm m f i + it m f i) = true := decide_eq_true (by omega)
        gi_wp2
        refine ⟨(fun _ h => by cases h), ?_⟩
        gi_wp2
        refine bodyPost_ret (results_none rfl _ _ _) rfl ?_
        exact ⟨⟨_, rfl⟩, .inl ⟨pre, .inl ⟨Ho.out, i, Hpre.out, by rw [Hsucc.out]; omega⟩, hJs⟩⟩
  · by_cases ho1 : Ok f m
    · have hmay := may_yes ho1
      have Hm := Lib.hid hmay
      clear hmay
      by_cases hs : s < 0
      · gi_wp2_with (refine ⟨trivial, ?_⟩; gi_at_call 15; refine (callsIn_wide.2 (back_may.calls f m true _ Hm.out)).mono ?_; rintro e w1 ⟨rfl, ⟨⟨nq, rfl⟩⟩⟩)
        refine bodyPost_ret (results_none rfl _ _ _) rfl ?_
        exact ⟨⟨_, rfl⟩, .inl ⟨[], .inr ⟨ho, rfl⟩, abides_drewN hJ h0 nq⟩⟩
      · have hs2 : 1099511627776 < s := by have : ¬ (0 ≤ s ∧ s ≤ 1099511627776) := fun x => ho ⟨ho1, x.1, x.2⟩; omega
        gi_wp2_with (refine ⟨trivial, ?_⟩; gi_at_call 15; refine (callsIn_wide.2 (back_may.calls f m true _ Hm.out)).mono ?_; rintro e w1 ⟨rfl, ⟨⟨nq, rfl⟩⟩⟩)
        refine bodyPost_ret (results_none rfl _ _ _) rfl ?_
        exact ⟨⟨_, rfl⟩, .inl ⟨[], .inr ⟨ho, rfl⟩, abides_drewN hJ h0 nq⟩⟩
    · have hmay := may_no ho1
      have Hm := Lib.hid hmay
      clear hmay
      gi_wp2_with (refine ⟨trivial, ?_⟩; gi_at_call 15; refine (callsIn_wide.2 (back_may.calls f m false _ Hm.out)).mono ?_; rintro e w1 ⟨rfl, ⟨⟨nq, rfl⟩⟩⟩)
      refine bodyPost_ret (results_none rfl _ _ _) rfl ?_
      exact ⟨⟨_, rfl⟩, .inl ⟨[], .inr ⟨ho, rfl⟩, abides_drewN hJ h0 nq⟩⟩

theorem times_stops (n : Nat) (hn : 1 ≤ n) (B : Nat) (f m s : Int) (w : World) (hB : B + 3 ≤ w.heap.size) (c1 : w.cell? ⟨B, 0, none⟩ = some (.int .i64 f)) (c2 : w.cell? ⟨B + 1, 0, none⟩ = some (.int .i64 m)) (c3 : w.cell? ⟨B + 2, 0, none⟩ = some (.int .i64 s)) :
    SeqStopsK Fence.wide n Try.prog 17 #[.pointer (some ⟨B, 0, none⟩), .pointer (some ⟨B + 1, 0, none⟩), .pointer (some ⟨B + 2, 0, none⟩)] encs2 (KeepIn B (B + 3)) (TAll f m s) (TPre f m s) 2000000000000 w := by
  have := times_stops_of (fun x : Int × Int => x) (fun i a _ _ _ _ => ⟨(i, a), rfl⟩) n hn B f m s w hB c1 c2 c3
  simpa using this

/-- A number, and a time. -/
abbrev NT := { p : Int × Int // 0 ≤ p.1 ∧ p.1 ≤ 1099511627776 ∧ 0 ≤ p.2 ∧ p.2 ≤ 1099511627776 }
theorem times_stops_nt (n : Nat) (hn : 1 ≤ n) (B : Nat) (f m s : Int) (w : World) (hB : B + 3 ≤ w.heap.size) (c1 : w.cell? ⟨B, 0, none⟩ = some (.int .i64 f)) (c2 : w.cell? ⟨B + 1, 0, none⟩ = some (.int .i64 m)) (c3 : w.cell? ⟨B + 2, 0, none⟩ = some (.int .i64 s)) :
    SeqStopsK Fence.wide n Try.prog 17 #[.pointer (some ⟨B, 0, none⟩), .pointer (some ⟨B + 1, 0, none⟩), .pointer (some ⟨B + 2, 0, none⟩)] (fun x : NT => #[.int .i64 x.1.1, .int .i64 x.1.2]) (KeepIn B (B + 3)) (fun xs => TAll f m s (xs.map Subtype.val)) (fun xs => TPre f m s (xs.map Subtype.val)) 2000000000000 w :=
  times_stops_of (fun x : NT => x.1) (fun i a h0 h1 h2 h3 => ⟨⟨(i, a), h0, h1, h2, h3⟩, rfl⟩) n hn B f m s w hB c1 c2 c3

end Go.Proofs.Ytnhlmmiocbkpjaa.Tm
