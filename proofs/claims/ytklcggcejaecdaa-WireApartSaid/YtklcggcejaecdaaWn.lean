/-
  wire.Nums, and wire.May with its two looks through a row (slices.ContainsFunc): whether it is a message. Conditions: numbers are of their kinds.
-/
import Derived.Test.YtklcggcejaecdaaWa
import Derived.Laws.Rows
import Derived.Deep.WholeRow
import Derived.Deep.RegionHeld3
import Derived.Lib.Hide
namespace Go.Proofs.Ytklcggcejaecdaa.Wi
open Go.RowKit Go.Proofs.Ytklcggcejaecdaa.H Go.Proofs.Ytklcggcejaecdaa.Uv Go.Proofs.Ytklcggcejaecdaa.Fr Go.Proofs.YtklcggcejaecdaaW.PrintWords Go.Proofs.YtklcggcejaecdaaW.PrintLast Go.Proofs.YtklcggcejaecdaaW.PrintMore
set_option linter.unusedVariables false
set_option linter.unusedSimpArgs false
def numsL : List Int := [-1, 4, 5, 5, 6, 1, 1, 3, 1, 2, 2, 2, 4, 2, 4, 2, 1, 2, 1]
def numsA : Array Value := (numsL.map (Value.int .i64)).toArray
set_option maxRecDepth 100000 in
theorem nums_calls (w : World) : Calls Try.prog 34 #[] w fun e w' => e = .returned (.agg numsA) ∧ Below w.heap.size w w' := by
  go_enter Try.func34, Try.ntmps34
  go_wp2_with (refine wpList_store_row rfl 54 (.tmp 0) (.tmp 1) rfl w.heap.size numsA rfl rfl 54 (Array.replicate 19 (.int .i64 0)) (heap_alloc_new w _) (by kernel_rfl) rfl (by kernel_rfl) ?_; rw [World.setRow_alloc_new])
  refine bodyPost_ret (results_cell_row rfl _ _ w.heap.size 54 numsA (0, 0) _ rfl (heap_alloc_new w _) Try.underlying54 rfl (by kernel_rfl)) rfl ?_
  exact ⟨rfl, (Below.refl _ _).alloc (Nat.le_refl _) _⟩
def numsF (k : Int) : Int := if k < 1 then -1 else if 19 ≤ k then -1 else numsL.getD k.toNat 0
set_option maxRecDepth 100000 in
theorem nums_at (w : World) (a0 : Int) : Calls Try.prog 16 #[.int .i64 a0] w fun e w' => e = .returned (.int .i64 (numsF a0)) ∧ Below w.heap.size w w' := by
  unfold numsF
  by_cases h1 : a0 < 1
  · rw [if_pos h1]
    go_enter Try.func16, Try.ntmps16
    go_wp2_with (first
      | (go_at_call 34; refine (nums_calls _).mono ?_; rintro e w1 ⟨rfl, hb1⟩; have HB1 := Lib.hid hb1; clear hb1)
      | (refine wpList_store_row rfl 54 (.tmp 3) (.tmp 4) rfl w1.heap.size numsA rfl rfl 54 (Array.replicate 19 (.int .i64 0)) (heap_alloc_new w1 _) (by kernel_rfl) rfl (by kernel_rfl) ?_; rw [World.setRow_alloc_new]))
    go_ret
    exact ⟨rfl, HB1.out.alloc HB1.out.size _⟩
  · rw [if_neg h1]
    by_cases h2 : 19 ≤ a0
    · rw [if_pos h2]
      go_enter Try.func16, Try.ntmps16
      go_wp2_with (first
        | (go_at_call 34; refine (nums_calls _).mono ?_; rintro e w1 ⟨rfl, hb1⟩; have HB1 := Lib.hid hb1; clear hb1)
        | (refine wpList_store_row rfl 54 (.tmp 3) (.tmp 4) rfl w1.heap.size numsA rfl rfl 54 (Array.replicate 19 (.int .i64 0)) (heap_alloc_new w1 _) (by kernel_rfl) rfl (by kernel_rfl) ?_; rw [World.setRow_alloc_new]))
      go_ret
      exact ⟨rfl, HB1.out.alloc HB1.out.size _⟩
    · rw [if_neg h2]
      have hc : ∀ W : World, (W.alloc (.cells numsA 54)).cell? ⟨W.heap.size, a0.toNat, none⟩ = some (.int .i64 (numsL.getD a0.toNat 0)) := fun W => by
        rw [cell_of_row _ _ _ _ _ _ (heap_alloc_new W _)]
        unfold numsA
        have : a0.toNat < numsL.length := by unfold numsL; simp; omega
        simp [List.getElem?_map, List.getElem?_eq_getElem this, List.getD]
      have k0 : (0 : Int) ≤ a0 := by omega
      have k1 : a0 < 19 := by omega
      go_enter Try.func16, Try.ntmps16
      go_wp2_with (first
        | (go_at_call 34; refine (nums_calls _).mono ?_; rintro e w1 ⟨rfl, hb1⟩; have HB1 := Lib.hid hb1; have hc1 := hc w1; clear hb1 hc)
        | (refine wpList_store_row rfl 54 (.tmp 3) (.tmp 4) rfl w1.heap.size numsA rfl rfl 54 (Array.replicate 19 (.int .i64 0)) (heap_alloc_new w1 _) (by kernel_rfl) rfl (by kernel_rfl) ?_; rw [World.setRow_alloc_new]))
      go_ret
      exact ⟨rfl, HB1.out.alloc HB1.out.size _⟩
/-! ### rows looked through -/
def badN (v : Int) : Bool := decide (9223372036854775807 < v)
def badA (a : AddrP) : Bool := !mayA a
theorem cell_of_C {k : IntKind} {w : World} {A : Option Addr} {n : Nat} {xs : List Int} (h : (Kd.int k).C w A n xs) (i : Nat) (h1 : i < xs.length) (hn : n = xs.length) : ∃ ad, A = some ad ∧ w.cell? (ad.add i) = some (.int k xs[i]) := by
  obtain ⟨ad, e, hc⟩ := Kd.at_int h i (by omega) (by omega)
  refine ⟨ad, e, ?_⟩
  rw [Int.toNat_natCast] at hc
  rw [hc]
  unfold rd
  rw [Int.toNat_natCast, List.getD, List.getElem?_eq_getElem h1]
  rfl
def dA : Kd AddrP := Kd.pair (Kd.int .u32) (Kd.int .i64)
theorem at_A {w : World} {A : Option Addr} {n : Nat} {L : List AddrP} (h : dA.C w A n L) (i : Nat) (hi : i < L.length) (hn : n = L.length) : ∃ ad, A = some ad ∧ w.cell? (ad.add (i * 2)) = some (.int .u32 L[i].1) ∧ w.cell? ⟨(ad.add (i * 2)).block, (ad.add (i * 2)).off + 1, none⟩ = some (.int .i64 L[i].2) := by
  obtain ⟨ad, c, e, _, hK, hc⟩ := Kd.C_get h ((0 : Int), (0 : Int)) i (by omega) (by omega)
  have hg : L.getD (i : Int).toNat ((0 : Int), (0 : Int)) = L[i] := by rw [Int.toNat_natCast, List.getD_eq_getElem?_getD, List.getElem?_eq_getElem hi]; rfl
  rw [hg] at hK
  obtain ⟨_, _, rfl, rfl, rfl⟩ := hK
  exact ⟨ad, e, hc 0 _ rfl, by rw [← add_field _ _ 1 (by omega)]; exact hc 1 _ rfl⟩
theorem any_take {α : Type} (f : α → Bool) (l : List α) (i : Nat) (h : i < l.length) : (l.take (i + 1)).any f = ((l.take i).any f || f l[i]) := by
  rw [List.take_succ_eq_append_getElem h, List.any_append]
  simp
theorem any_hit {α : Type} {f : α → Bool} {l : List α} {i : Nat} {h : i < l.length} (hf : f l[i] = true) : l.any f = true := List.any_eq_true.2 ⟨l[i], List.getElem_mem h, hf⟩
theorem may1_calls (w : World) (v : Int) (h0 : 0 ≤ v) (h1 : v ≤ 18446744073709551615) : Calls Try.prog 25 #[.int .u64 v] w fun e w' => e = .returned (.bool (badN v)) ∧ Below w.heap.size w w' := by
  have HU := Lib.hid (ulen_calls w v h0 h1)
  go_enter Try.func25, Try.ntmps25
  go_wp2_with (go_at_call 26; refine HU.out.mono ?_; rintro e w1 ⟨⟨n, rfl, hn⟩, hb1⟩; have HB1 := Lib.hid hb1; clear hb1)
  go_ret
  exact ⟨rfl, HB1.out⟩
theorem may2_calls (w : World) (a : AddrP) (h : okA a) : Calls Try.prog 28 #[.agg #[.int .u32 a.1, .int .i64 a.2]] w fun e w' => e = .returned (.bool (badA a)) ∧ Below w.heap.size w w' := by
  obtain ⟨W, hW⟩ : ∃ W, w.alloc (.cells #[.int .u32 a.1, .int .i64 a.2] 45) = W := ⟨_, rfl⟩
  have hbW : Below w.heap.size w W := by rw [← hW]; exact (Below.refl _ w).alloc (Nat.le_refl _) _
  have e1 : W.heap[w.heap.size]? = some (.cells #[.int .u32 a.1, .int .i64 a.2] 45 (0, 0)) := by rw [← hW]; exact heap_alloc_new w _
  have c0 := (blk_cell e1 0).trans rfl
  have c1 := (blk_cell e1 1).trans rfl
  have HU := Lib.hid (amay_calls W a h)
  have HB := Lib.hid hbW
  obtain ⟨m, hm⟩ : ∃ m, mayA a = m := ⟨_, rfl⟩
  rw [hm] at HU
  have HM := Lib.hid (show badA a = !m by unfold badA; rw [hm])
  clear e1 hbW hm
  go_enter Try.func28, Try.ntmps28
  go_wp2_with (go_at_call 29; refine HU.out.mono ?_; rintro e w1 ⟨rfl, hb1⟩; have HB1 := Lib.hid hb1; clear hb1)
  go_ret
  exact ⟨by rw [HM.out]; rfl, HB.out.trans (HB1.out.mono HB.out.size)⟩
set_option maxRecDepth 100000 in
set_option maxHeartbeats 1000000 in
theorem idx1_calls (w : World) (A : Option Addr) (n c : Nat) (l : List Int) (hn : n = l.length) (hr : Kd.C (Kd.int .u64) w A n l) (hb : ∀ v ∈ l, 0 ≤ v ∧ v ≤ 18446744073709551615) (hl : n ≤ 1000000000) :
    Calls Try.prog 41 #[.slice A n c, .func (.func 25) #[] #[]] w fun e w' => (∃ r : Int, e = .returned (.int .i64 r) ∧ decide (0 ≤ r) = l.any badN) ∧ Below w.heap.size w w' := by
  have HR := Lib.hid hr
  have HV := Lib.hid hb
  have HN := Lib.hid hn
  have hn1 : n ≤ l.length := by omega
  have hn2 : l.length ≤ n := by omega
  clear hr hb hn
  go_enter Try.func41, Try.ntmps41
  go_wp2
  go_loopw [8] (fun v8 wr => ∃ i : Nat, v8 = .int .i64 i ∧ i ≤ n ∧ Hid ((l.take i).any badN = false) ∧ Hid (Below w.heap.size w wr)) (fun v8 _ => n - (intOf v8).toNat)
  case atStart => exact ⟨0, rfl, Nat.zero_le _, Lib.hid (by simp), Lib.hid (Below.refl _ _)⟩
  case round =>
    obtain ⟨i, rfl, hi, HA, HB⟩ := hrel
    by_cases hlt : i < n
    · have b0 : decide ((i : Int) < (n : Int)) = true := decide_eq_true (by omega)
      have b1 : (i : Int) < (n : Int) := by omega
      obtain ⟨ad, rfl, hcell⟩ := cell_of_C (Kd.C_below HR.out HB.out) i (by omega) HN.out
      obtain ⟨x, hx⟩ : ∃ x, l[i] = x := ⟨_, rfl⟩
      have hxb := HV.out x (by rw [← hx]; exact List.getElem_mem _)
      rw [hx] at hcell
      obtain ⟨q, hq⟩ : ∃ q, badN x = q := ⟨_, rfl⟩
      have KM := may1_calls wr x hxb.1 hxb.2
      rw [hq] at KM
      have KM := Lib.hid KM
      have HX := Lib.hid (show badN l[i] = q by rw [hx]; exact hq)
      clear hx hq
      cases q with
      | true =>
        go_wp2_with (go_at_call 25; refine KM.out.mono ?_; rintro e w1 ⟨rfl, hb1⟩; have HB1 := Lib.hid (HB.out.trans (hb1.mono HB.out.size)); clear hb1)
        go_ret
        exact ⟨⟨_, rfl, by rw [any_hit HX.out]; exact decide_eq_true (by omega)⟩, HB1.out⟩
      | false =>
        go_wp2_with (go_at_call 25; refine KM.out.mono ?_; rintro e w1 ⟨rfl, hb1⟩; have HB1 := Lib.hid (HB.out.trans (hb1.mono HB.out.size)); clear hb1)
        go_roundw
        case rel => exact ⟨i + 1, by go_num, by omega, Lib.hid (by rw [any_take _ _ _ (by omega), HA.out, HX.out]; rfl), HB1⟩
        case measure => simp [intOf]; omega
    · have b0 : decide ((i : Int) < (n : Int)) = false := decide_eq_false (by omega)
      go_wp2
      go_ret
      have h := HA.out
      rw [List.take_of_length_le (by omega)] at h
      exact ⟨⟨_, rfl, by rw [h]; rfl⟩, HB.out⟩
set_option maxRecDepth 100000 in
set_option maxHeartbeats 1000000 in
theorem idx2_calls (w : World) (A : Option Addr) (n c : Nat) (l : List AddrP) (hn : n = l.length) (hr : dA.C w A n l) (hb : ∀ v ∈ l, okA v) (hl : n ≤ 1000000000) :
    Calls Try.prog 43 #[.slice A n c, .func (.func 28) #[] #[]] w fun e w' => (∃ r : Int, e = .returned (.int .i64 r) ∧ decide (0 ≤ r) = l.any badA) ∧ Below w.heap.size w w' := by
  have HR := Lib.hid hr
  have HV := Lib.hid hb
  have HN := Lib.hid hn
  have hn1 : n ≤ l.length := by omega
  have hn2 : l.length ≤ n := by omega
  clear hr hb hn
  go_enter Try.func43, Try.ntmps43
  go_wp2
  go_loopw [8] (fun v8 wr => ∃ i : Nat, v8 = .int .i64 i ∧ i ≤ n ∧ Hid ((l.take i).any badA = false) ∧ Hid (Below w.heap.size w wr)) (fun v8 _ => n - (intOf v8).toNat)
  case atStart => exact ⟨0, rfl, Nat.zero_le _, Lib.hid (by simp), Lib.hid (Below.refl _ _)⟩
  case round =>
    obtain ⟨i, rfl, hi, HA, HB⟩ := hrel
    by_cases hlt : i < n
    · have b0 : decide ((i : Int) < (n : Int)) = true := decide_eq_true (by omega)
      have b1 : (i : Int) < (n : Int) := by omega
      obtain ⟨ad, rfl, hc0, hc1⟩ := at_A (Kd.C_below HR.out HB.out) i (by omega) HN.out
      obtain ⟨x, hx⟩ : ∃ x, l[i] = x := ⟨_, rfl⟩
      have hxb := HV.out x (by rw [← hx]; exact List.getElem_mem _)
      rw [hx] at hc0 hc1
      obtain ⟨q, hq⟩ : ∃ q, badA x = q := ⟨_, rfl⟩
      have KM := fun W => may2_calls W x hxb
      rw [hq] at KM
      have KM := Lib.hid KM
      have HX := Lib.hid (show badA l[i] = q by rw [hx]; exact hq)
      obtain ⟨x1, x2⟩ := x
      dsimp only at hc0 hc1 KM
      clear hx hq hxb
      cases q with
      | true =>
        go_wp2_with (go_at_call 28; refine (KM.out _).mono ?_; rintro e w1 ⟨rfl, hb1⟩; have HB1 := Lib.hid (HB.out.trans (Below.mono hb1 HB.out.size)); clear hb1)
        go_ret
        exact ⟨⟨_, rfl, by rw [any_hit HX.out]; exact decide_eq_true (by omega)⟩, HB1.out⟩
      | false =>
        go_wp2_with (go_at_call 28; refine (KM.out _).mono ?_; rintro e w1 ⟨rfl, hb1⟩; have HB1 := Lib.hid (HB.out.trans (Below.mono hb1 HB.out.size)); clear hb1)
        go_roundw
        case rel => exact ⟨i + 1, by go_num, by omega, Lib.hid (by rw [any_take _ _ _ (by omega), HA.out, HX.out]; rfl), HB1⟩
        case measure => simp [intOf]; omega
    · have b0 : decide ((i : Int) < (n : Int)) = false := decide_eq_false (by omega)
      go_wp2
      go_ret
      have h := HA.out
      rw [List.take_of_length_le (by omega)] at h
      exact ⟨⟨_, rfl, by rw [h]; rfl⟩, HB.out⟩
theorem has1_calls (w : World) (A : Option Addr) (n c : Nat) (l : List Int) (q : Bool) (hq : l.any badN = q) (hn : n = l.length) (hr : Kd.C (Kd.int .u64) w A n l) (hb : ∀ v ∈ l, 0 ≤ v ∧ v ≤ 18446744073709551615) (hl : n ≤ 1000000000) :
    Calls Try.prog 24 #[.slice A n c, .func (.func 25) #[] #[]] w fun e w' => e = .returned (.bool q) ∧ Below w.heap.size w w' := by
  have KI := idx1_calls w A n c l hn hr hb hl
  rw [hq] at KI
  have KI := Lib.hid KI
  clear hr hb hn hq
  go_enter Try.func24, Try.ntmps24
  go_wp2_with (go_at_call 41; refine KI.out.mono ?_; rintro e w1 ⟨⟨r, rfl, hd⟩, hb1⟩; have HB1 := Lib.hid hb1; clear hb1)
  go_ret
  exact ⟨rfl, HB1.out⟩
theorem has2_calls (w : World) (A : Option Addr) (n c : Nat) (l : List AddrP) (q : Bool) (hq : l.any badA = q) (hn : n = l.length) (hr : dA.C w A n l) (hb : ∀ v ∈ l, okA v) (hl : n ≤ 1000000000) :
    Calls Try.prog 27 #[.slice A n c, .func (.func 28) #[] #[]] w fun e w' => e = .returned (.bool q) ∧ Below w.heap.size w w' := by
  have KI := idx2_calls w A n c l hn hr hb hl
  rw [hq] at KI
  have KI := Lib.hid KI
  clear hr hb hn hq
  go_enter Try.func27, Try.ntmps27
  go_wp2_with (go_at_call 43; refine KI.out.mono ?_; rintro e w1 ⟨⟨r, rfl, hd⟩, hb1⟩; have HB1 := Lib.hid hb1; clear hb1)
  go_ret
  exact ⟨rfl, HB1.out⟩
end Go.Proofs.Ytklcggcejaecdaa.Wi
