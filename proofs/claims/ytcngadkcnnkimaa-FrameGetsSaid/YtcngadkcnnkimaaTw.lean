/-
  frame.All tells the rows of its bytes, each a row of its own; slices.Collect of it is the rows; frame.Split: the rows, or the code. Condition: the bytes are bytes.
-/
import Derived.Test.YtcngadkcnnkimaaTo
namespace Go.Proofs.Ytcngadkcnnkimaa.Fr
open Go.RowKit Go.Shelf Go.Proofs.Ytcngadkcnnkimaa.H Go.Proofs.Ytcngadkcnnkimaa.Uv Go.Proofs.YtcngadkcnnkimaaW.PrintWords Go.Proofs.YtcngadkcnnkimaaW.PrintLast Go.Proofs.YtcngadkcnnkimaaW.PrintMore
set_option linter.unusedVariables false
set_option linter.unusedSimpArgs false
attribute [local go_sem] Oper.semAt_some

abbrev VR := Value × List Int
/-- The value is a row of its own (from block B on), and it is the next of the rows. -/
def TellsR (B : Nat) (rows : List (List Int)) (pre : List VR) (x : VR) (W : World) : Prop := (Kd.int .u8).R 5 W B (fun _ => True) x.1 x.2 ∧ rows[pre.length]? = some x.2
theorem TellsR.put {B : Nat} {rows : List (List Int)} (pre : List VR) (x : VR) (W : World) (l : Nat) (o o' : Obj) (hl : W.heap[l]? = some o) (ho : o.isCells = false) (h : TellsR B rows pre x W) : TellsR B rows pre x (W.putObj l o') := by
  refine ⟨Kd.R_mono (Kd.R_step (Kd.R_bound h.1) (fun k hk _ => World.putObj_heap_other (fun e => ?_))) (fun _ _ => trivial), h.2⟩
  obtain ⟨_, _, _, q, _, cells, hc⟩ := hk
  rw [e, hl] at hc
  injection hc with hc
  rw [hc] at ho
  cases ho
theorem prefix_get {rows : List (List Int)} {pre : List VR} (h : pre.map Prod.snd <+: rows) : ∀ {x : VR}, rows[pre.length]? = some x.2 → (pre ++ [x]).map Prod.snd <+: rows := by
  intro x hx
  rw [List.map_append, List.map_singleton]
  exact (snoc_prefix x.2 h).2 (by rw [List.length_map]; exact hx)
set_option maxRecDepth 100000 in
set_option maxHeartbeats 2000000 in
theorem walk_told (m n : Nat) (hn : 1 ≤ n) (S : Nat → Prop) (A : Option Addr) (c : Nat) (l : List Int) (rows : List (List Int)) (lp : Nat) (J : List VR → World → Prop) (W : World) (hJ : AbidesFrom W.heap.size J) (hS : ∀ b, S b → b < W.heap.size)
    (hf : ∀ V, KeepS S W V → Kd.C (Kd.int .u8) V A l.length l) (hc : l.length ≤ c) (hb : Bytes l) (hl : l.length ≤ 1000000) (hrows : (rowsF l).1 = rows)
    (hY : ∀ pre x W1, J pre W1 → TellsR W.heap.size rows pre x W1 → YieldAt Fence.wide m Try.prog lp #[x.1] W1 fun e W' => e = .returned (.bool true) ∧ J (pre ++ [x]) W' ∧ KeepS S W1 W')
    (h0 : J [] W) : CallsIn Fence.wide n Try.prog 26 #[.slice A l.length c, .func (.yield lp) #[] #[]] W fun e W' => (∃ v, e = .returned v) ∧ ∃ xs : List VR, xs.map Prod.snd = rows ∧ J xs W' := by
  have Hf := Lib.hid hf
  have Hb := Lib.hid hb
  have Hrows := Lib.hid hrows
  clear hf hb hrows
  refine callsIn_of_wp Try.func26 rfl trivial ?_ rfl
  simp only [Try.ntmps26, List.size_toArray, List.length_cons, List.length_nil, Nat.reduceAdd, Nat.reduceSub, Array.replicate_succ, Array.replicate_zero, List.push_toArray, List.append_toArray, List.nil_append, List.cons_append]
  gi_wp2
  gi_loopg [0] (1000000 : Nat) (fun kq v0 wr => ∃ (A' : Option Addr) (c' : Nat) (x : List Int), v0 = .slice A' x.length c' ∧ x.length ≤ c' ∧ x.length ≤ kq ∧ x.length ≤ 1000000 ∧ Hid (∀ V, KeepS S W V → Kd.C (Kd.int .u8) V A' x.length x) ∧ Hid (Bytes x) ∧ (∃ pre : List VR, Hid (pre.map Prod.snd ++ (rowsF x).1 = rows) ∧ J pre wr) ∧ KeepS S W wr)
  case atStart => exact ⟨A, c, l, rfl, hc, hl, hl, Hf, Hb, ⟨[], Lib.hid (by simpa using Hrows.out), h0⟩, KeepS.refl _ _⟩
  case round =>
    obtain ⟨A', c', x, rfl, hc', hxk, hxm, HC, HBx, ⟨pre, Hpre, hJs⟩, hkp⟩ := hrel
    by_cases h0 : 0 < x.length
    · have hb0 : decide (0 < (x.length : Int)) = true := decide_eq_true (by omega)
      have hb0' : decide (0 < x.length) = true := decide_eq_true h0
      have hne : x ≠ [] := List.length_pos_iff.1 h0
      obtain ⟨k1, hg⟩ := (fget_yes x HBx.out (by omega)).rounds
      obtain ⟨⟨row, m1, e1⟩, hgf⟩ : ∃ z, getF x = z := ⟨_, rfl⟩
      rw [hgf] at hg
      have Hg := Lib.hid hg
      have Hgf := Lib.hid hgf
      clear hg hgf
      by_cases h1 : e1 = 0
      · subst h1
        have hin := getF_in HBx.out (by rw [Hgf.out])
        have hrw := rowsF_ok HBx.out hne (by rw [Hgf.out])
        rw [Hgf.out] at hin hrw
        dsimp only at hin hrw
        obtain ⟨h2, h3, h4, h5⟩ := hin
        obtain ⟨i0, hi0, _, hsz0, _⟩ := info_parts info8
        obtain ⟨A9, hcut9, hA9, hC9⟩ := print_drop_of (P := Try.prog) (Value.int .u8) 0 22 5 .i64 Try.underlying22 hi0 hsz0 A' c' x m1 (by omega) h3 hc'
        have HC9 := Lib.hid (show ∀ V, KeepS S W V → Kd.C (Kd.int .u8) V A9 (x.drop m1.toNat).length (x.drop m1.toNat) from fun V hV => Kd.C_of_reads (h1 := fun _ => rfl) (hA9 _ (Kd.reads_of_C (HC.out V hV))))
        have hle9 : (x.drop m1.toNat).length ≤ c' - m1.toNat := hC9
        have hlt9 : (x.drop m1.toNat).length < x.length := by rw [List.length_drop]; omega
        have Hle9 := Lib.hid hle9
        have Hlt9 := Lib.hid hlt9
        have Hrw := Lib.hid hrw
        have H23 := Lib.hid (And.intro h2 h3)
        clear hA9 hC9 hi0 hsz0 hrw hle9 hlt9 h2 h3 h4 h5
        gi_wp2_with (refine ⟨trivial, ?_⟩; gi_at_call 10; refine (callsIn_wide.2 (frame_Get.calls k1 A' c' x row m1 0 _ (HC.out wr hkp) hc' Hg.out)).mono ?_; rintro e w1 ⟨v0, rfl, hR, hb1⟩)
        have hJ1 : J pre w1 := abides_below hJ hJs hb1
        have hk1 : KeepS S wr w1 := KeepS.below hb1 (fun b hb => Nat.lt_of_lt_of_le (hS b hb) hkp.1)
        have hT : TellsR W.heap.size rows pre (v0, row) w1 := ⟨Kd.R_lower hR hkp.1, by
          rw [← Hpre.out, Hrw.out, List.getElem?_append_right (by rw [List.length_map]; exact Nat.le_refl _), List.length_map, Nat.sub_self]; rfl⟩
        obtain ⟨fn, tmps, assign, body, hy, hR2⟩ := hY pre (v0, row) w1 hJ1 hT
        rw [hy, Oper.uponIn_round]
        refine ⟨(fun h => by cases h), (roundIn_wide' hR2).mono ?_⟩
        rintro e W3 ⟨rfl, hJ3, hk3⟩
        gi_wp2
        gi_roundg (gk - 1)
        case measure => have := Hlt9.out; omega
        case rel =>
          have h9 := Hlt9.out
          exact ⟨A9, c' - m1.toNat, x.drop m1.toNat, by simp, Hle9.out, by omega, by omega, HC9, Lib.hid (HBx.out.drop _), ⟨pre ++ [(v0, row)], Lib.hid (by rw [List.map_append, List.append_assoc, ← Hpre.out, Hrw.out]; rfl), hJ3⟩, (hkp.trans hk1).trans hk3⟩
      · have hb1 : (e1 != 0) = true := by simpa using h1
        have hbad := rowsF_bad hne (show ¬ (getF x).2.2 = 0 by rw [Hgf.out]; exact h1)
        have Hx := Lib.hid (show pre.map Prod.snd = rows by rw [← Hpre.out, hbad, List.append_nil])
        clear h1 hbad
        gi_wp2_with (refine ⟨trivial, ?_⟩; gi_at_call 10; refine (callsIn_wide.2 (frame_Get.calls k1 A' c' x row m1 e1 _ (HC.out wr hkp) hc' Hg.out)).mono ?_; rintro e w1 ⟨v0, rfl, hR, hw1⟩)
        refine bodyPost_ret (v := .int .i64 e1) (by simp [results, Try.results26, go_sem]) rfl ?_
        exact ⟨⟨_, rfl⟩, pre, Hx.out, abides_below hJ hJs hw1⟩
    · have hb0 : decide (0 < (x.length : Int)) = false := decide_eq_false (by omega)
      have hb0' : decide (0 < x.length) = false := decide_eq_false h0
      have hnil : x = [] := List.length_eq_zero_iff.1 (by omega)
      have Hx := Lib.hid (show pre.map Prod.snd = rows by rw [← Hpre.out, hnil, rowsF_nil, List.append_nil])
      clear hnil
      gi_wp2
      refine bodyPost_ret (v := .int .i64 0) (by simp [results, Try.results26, go_sem]) rfl ?_
      exact ⟨⟨_, rfl⟩, pre, Hx.out, hJs⟩
theorem all1_told (n : Nat) (hn : 2 ≤ n) (S : Nat → Prop) (B : Nat) (A : Option Addr) (c : Nat) (l : List Int) (rows : List (List Int)) (w : World) (base : Nat) (hbase : base ≤ w.heap.size) (hB : S B) (hS : ∀ b, S b → b < w.heap.size)
    (c1 : w.cell? ⟨B, 0, none⟩ = some (.slice A l.length c)) (hc : l.length ≤ c) (hf : ∀ V, KeepS S w V → Kd.C (Kd.int .u8) V A l.length l) (hb : Bytes l) (hl : l.length ≤ 1000000) (hrows : (rowsF l).1 = rows) :
    Told Fence.wide n Try.prog 28 #[.pointer (some ⟨B, 0, none⟩)] (fun x : VR => #[x.1]) (KeepS S) (TellsR base rows) (fun xs => xs.map Prod.snd = rows) w := fun lp J W hW hJ hY h0 => by
  have hkw : KeepS S w W := KeepS.below hW hS
  have Hc1 := Lib.hid ((hkw.cell (p := ⟨B, 0, none⟩) hB).trans c1)
  have HSw := Lib.hid (show ∀ b, S b → b < W.heap.size from fun b hb => Nat.lt_of_lt_of_le (hS b hb) hW.size)
  have Hf := Lib.hid (show ∀ V, KeepS S W V → Kd.C (Kd.int .u8) V A l.length l from fun V hV => hf V (hkw.trans hV))
  have HY := Lib.hid (show ∀ pre x W1, J pre W1 → TellsR W.heap.size rows pre x W1 → YieldAt Fence.wide (n - 1) Try.prog lp #[x.1] W1 fun e W' => e = .returned (.bool true) ∧ J (pre ++ [x]) W' ∧ KeepS S W1 W' from fun pre x W1 h1 h2 => hY pre x W1 h1 ⟨Kd.R_lower h2.1 (Nat.le_trans hbase hW.size), h2.2⟩)
  have Hb := Lib.hid hb
  have Hr := Lib.hid hrows
  clear hf c1 hW hkw hY hb hrows
  refine callsIn_of_wp Try.func28 rfl trivial ?_ rfl
  simp only [Try.ntmps28, List.size_toArray, List.length_cons, List.length_nil, Nat.reduceAdd, Nat.reduceSub, Array.replicate_succ, Array.replicate_zero, List.push_toArray, List.append_toArray, List.nil_append, List.cons_append]
  have c2 := Hc1.out
  have hn1 : 1 ≤ n := by omega
  gi_wp2_with (refine ⟨trivial, ?_⟩; gi_at_call 26; refine (walk_told (n - 1) _ (by omega) S A c l rows lp J W hJ HSw.out Hf.out hc Hb.out hl Hr.out HY.out h0).mono ?_; rintro e w1 ⟨⟨v, rfl⟩, hq⟩)
  refine bodyPost_end (results_none rfl _ _ _) rfl ?_
  exact ⟨⟨_, rfl⟩, hq⟩
end Go.Proofs.Ytcngadkcnnkimaa.Fr
