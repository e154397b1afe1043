/-
  addr: the document's Digits, Place, Bytes. Conditions: as the theorems state them.
-/
import Derived.Test.YtjbhcaifmgbpgaaDoorAd
import Derived.Laws.BytesArg
namespace Go.Proofs.YtjbhcaifmgbpgaaDoor.Ad
open Go Go.RowKit Go.Shelf Go.Proofs.YtjbhcaifmgbpgaaDoorW.PrintWords Go.Proofs.YtjbhcaifmgbpgaaDoorW.PrintLast Go.Proofs.YtjbhcaifmgbpgaaDoorW.PrintMore
set_option linter.unusedVariables false
set_option linter.unusedSimpArgs false
attribute [local go_sem] Oper.semAt_some
def digB (v : Nat) : UInt8 := UInt8.ofNat (48 + v % 10)
theorem dec_last (v : Nat) : dec v = (dec v).dropLast ++ [digB v] := by
  by_cases h : v < 10
  · rw [dec_small h]
    unfold digB
    rw [Nat.mod_eq_of_lt h]
    rfl
  · rw [dec_big h, List.dropLast_concat]
    rfl
theorem dec_drop {v : Nat} (h : ¬ v < 10) : (dec v).dropLast = dec (v / 10) := by rw [dec_big h, List.dropLast_concat]
def chr (n : Int) : Str := [UInt8.ofNat n.toNat]
theorem conv_one (w : World) (n : Int) : (convert 38 9 (.slice (some ⟨w.heap.size, 0, none⟩) 1 1)).run Tryd.prog (w.alloc (.cells #[.int .u8 n] 5)) = .ok (.string (mk (chr n))) (w.alloc (.cells #[.int .u8 n] 5)) := by
  have h := run_convert_bytes_arg (P := Tryd.prog) (w.alloc (.cells #[.int .u8 n] 5)) 38 5 Tryd.underlying38 Tryd.underlying5 w.heap.size 0 1 1 [n] rfl (fun i hi => by
    have : i = 0 := by omega
    subst this
    exact cell_cellsN (new_cellsN _ _ _) 0 (by simp)) 9 Tryd.underlying9
  exact h
theorem chr_dig (u : Nat) : chr ((48 : Int) + (u : Int) % 10) = [digB u] := by
  unfold digB chr
  congr 2
theorem dec_lenk : ∀ (k u : Nat), u < 10 ^ (k + 1) → (dec u).length ≤ k + 1
  | 0, u, h => by rw [dec_small (by simpa using h)]; simp
  | k + 1, u, h => by
    by_cases hu : u < 10
    · rw [dec_small hu]; simp
    · rw [dec_big hu, List.length_append, List.length_singleton]
      have := dec_lenk k (u / 10) (by rw [Nat.pow_succ] at h; omega)
      omega
set_option maxRecDepth 100000 in
set_option maxHeartbeats 4000000 in
theorem digits_calls (w : World) (u : Nat) (hu : u ≤ 9223372036854775807) : Calls Tryd.prog 16 #[.int .i64 u] w fun e w' => e = .returned (.string (mk (dI u))) ∧ Below w.heap.size w w' := by
  have HU := Lib.hid hu
  have kc := conv_one
  go_enter Tryd.func16, Tryd.ntmps16
  go_upto_region 2 with fail
  clear hu
  go_loopw [0, 3] (fun v0 v3 wr => ∃ (v : Nat) (S : Str), v0 = .int .i64 v ∧ v ≤ u ∧ v3 = .string (mk S) ∧ Hid (dec u = (dec v).dropLast ++ S) ∧ S.length + (dec v).length ≤ (dec u).length + 1 ∧ Below w.heap.size w wr) (fun v0 _ _ => (intOf v0).toNat)
  case atStart => exact ⟨u, chr (48 + (u : Int) % 10), rfl, Nat.le_refl _, rfl, Lib.hid (by rw [chr_dig]; exact dec_last u), by simp [chr]; omega, (Below.refl _ _).alloc (Nat.le_refl _) _⟩
  case round =>
    obtain ⟨v, S, rfl, hvu, rfl, HS, hln, hb⟩ := hrel
    have HLN := Lib.hid hln
    have HVU := Lib.hid hvu
    have hdl := dec_len u
    have hvm : v ≤ 9223372036854775807 := Nat.le_trans hvu HU.out
    by_cases h : v < 10
    · have b1 : decide ((v : Int) ≥ 10) = false := decide_eq_false (by omega)
      have b2 : decide (10 ≤ v) = false := decide_eq_false (by omega)
      have b3 : decide ((10 : Int) ≤ v) = false := decide_eq_false (by omega)
      have e : dec u = S := by rw [HS.out, dec_small h]; rfl
      clear hln hdl h hvu
      go_wp2
      go_ret
      refine ⟨?_, hb⟩
      show Ending.returned (.string (mk S)) = _
      rw [← e]
      unfold dI
      rw [Int.toNat_natCast]
    · have b1 : decide ((v : Int) ≥ 10) = true := decide_eq_true (by omega)
      have b2 : decide (10 ≤ v) = true := decide_eq_true (by omega)
      have b3 : decide ((10 : Int) ≤ v) = true := decide_eq_true (by omega)
      have hl5 : (dec u).length ≤ 20 := dec_lenk 19 u (by have := HU.out; omega)
      have hS2 : S.length ≤ 4611686018427387903 := by omega
      have z := fun n => small2 (a := chr n) (b := S) (by simp [chr]) hS2
      have kk := fun n => mk_app (chr n) S
      clear hln hdl hvu hl5 hS2
      go_wp2
      go_roundw
      case rel =>
        have e1 : dec (v / 10) = (dec (v / 10)).dropLast ++ [digB (v / 10)] := dec_last _
        have e2 := chr_dig (v / 10)
        refine ⟨v / 10, chr (48 + (v : Int) / 10 % 10) ++ S, by simp, by have := HVU.out; omega, rfl, Lib.hid ?_, ?_, hb.alloc hb.size _⟩
        · have e3 : chr (48 + (v : Int) / 10 % 10) = [digB (v / 10)] := by rw [← e2]; congr 1
          rw [HS.out, dec_drop h, e3, ← List.append_assoc, ← e1]
        · have := HLN.out
          rw [dec_big h, List.length_append, List.length_singleton] at this
          have : (chr (48 + (v : Int) / 10 % 10)).length = 1 := rfl
          rw [List.length_append]
          omega
      case measure => simp [intOf]; omega
set_option maxRecDepth 100000 in
set_option maxHeartbeats 2000000 in
theorem refplace_calls (w : World) (h p id : Int) (via : Bool) (h0 : 0 ≤ h) : Calls Tryd.prog 13 #[.agg #[.int .u32 h, .int .i64 p, .int .i64 id, .bool via]] w fun e w' => e = .returned (.bool (mayP (h, p, id, via))) ∧ Below w.heap.size w w' := by
  obtain ⟨W, hW⟩ : ∃ W, w.alloc (.cells #[.int .u32 h, .int .i64 p, .int .i64 id, .bool via] 26) = W := ⟨_, rfl⟩
  have hb : Below w.heap.size w W := by rw [← hW]; exact (Below.refl _ _).alloc (Nat.le_refl _) _
  have hc : W.heap[w.heap.size]? = some (.cells #[.int .u32 h, .int .i64 p, .int .i64 id, .bool via] 26 (0, 0)) := by rw [← hW]; exact new_cellsN _ _ _
  have HB := Lib.hid hb
  have HC := Lib.hid hc
  have d0 := cell_cellsN hc 0 (by simp)
  have d1 := cell_cellsN hc 1 (by simp)
  have d2 := cell_cellsN hc 2 (by simp)
  have d3 := cell_cellsN hc 3 (by simp)
  simp only [List.getElem_toArray, List.getElem_cons_zero, List.getElem_cons_succ] at d0 d1 d2 d3
  clear hb hc
  obtain ⟨m, hm⟩ : ∃ m, mayA h p = m := ⟨_, rfl⟩
  have K := refmay_calls W h p h0
  rw [hm] at K
  have K := Lib.hid K
  have HM := Lib.hid hm
  clear hm
  cases m with
  | false =>
    go_enter Tryd.func13, Tryd.ntmps13
    go_wp2_with (go_at_call 23; refine K.out.mono ?_; rintro e w1 ⟨rfl, hb1⟩; have HB1 := Lib.hid hb1; clear hb1)
    go_ret
    exact ⟨by unfold mayP; rw [HM.out]; rfl, HB.out.trans (HB1.out.mono HB.out.size)⟩
  | true =>
    go_enter Tryd.func13, Tryd.ntmps13
    go_wp2_with (go_at_call 23; refine K.out.mono ?_; rintro e w1 ⟨rfl, hb1⟩; have HB1 := Lib.hid hb1; have hc1 := (hb1.block w.heap.size (Array.getElem?_eq_some_iff.1 HC.out).1).trans HC.out; have f1 := cell_cellsN hc1 1 (by simp); have f2 := cell_cellsN hc1 2 (by simp); have f3 := cell_cellsN hc1 3 (by simp); simp only [List.getElem_toArray, List.getElem_cons_zero, List.getElem_cons_succ] at f1 f2 f3; clear hb1 hc1)
    all_goals go_ret
    all_goals refine ⟨?_, HB.out.trans (HB1.out.mono HB.out.size)⟩
    all_goals (unfold mayP; simp only [HM.out, Ending.returned.injEq, Value.bool.injEq]; cases via <;> simp_all <;> (try omega))
set_option maxRecDepth 100000 in
set_option maxHeartbeats 2000000 in
theorem refbytes_yes (w : World) (h p : Int) (hh : U32 h) (hm : mayA h p = true) : Calls Tryd.prog 24 #[.agg #[.int .u32 h, .int .i64 p]] w fun e w' => ∃ g, e = .returned (.slice (some ⟨g, 0, none⟩) 6 6) ∧ w.heap.size ≤ g ∧ w'.heap[g]? = some (.cells ((bytesA h p).map (Value.int .u8)).toArray 5 (0, 0)) ∧ Below w.heap.size w w' := by
  have hmm := (mayA_iff h p).1 hm
  obtain ⟨W, hW⟩ : ∃ W, w.alloc (.cells #[.int .u32 h, .int .i64 p] 24) = W := ⟨_, rfl⟩
  have hb : Below w.heap.size w W := by rw [← hW]; exact (Below.refl _ _).alloc (Nat.le_refl _) _
  have hc : W.heap[w.heap.size]? = some (.cells #[.int .u32 h, .int .i64 p] 24 (0, 0)) := by rw [← hW]; exact new_cellsN _ _ _
  have HB := Lib.hid hb
  have HC := Lib.hid hc
  have d0 := cell_cellsN hc 0 (by simp)
  have d1 := cell_cellsN hc 1 (by simp)
  simp only [List.getElem_toArray, List.getElem_cons_zero, List.getElem_cons_succ] at d0 d1
  have K := refmay_calls W h p hh.1
  rw [hm] at K
  have K := Lib.hid K
  unfold U32 at hh
  clear hb hc hm
  go_enter Tryd.func24, Tryd.ntmps24
  go_wp2_with (go_at_call 23; refine K.out.mono ?_; rintro e w1 ⟨rfl, hb1⟩; have HB1 := Lib.hid hb1; have hc1 := (hb1.block w.heap.size (Array.getElem?_eq_some_iff.1 HC.out).1).trans HC.out; have f0 := cell_cellsN hc1 0 (by simp); have f1 := cell_cellsN hc1 1 (by simp); simp only [List.getElem_toArray, List.getElem_cons_zero, List.getElem_cons_succ] at f0 f1; clear hb1 hc1)
  go_ret
  have hs := HB1.out.size
  exact ⟨w1.heap.size, rfl, Nat.le_trans HB.out.size hs, new_cellsN _ _ _, HB.out.trans ((HB1.out.trans ((Below.refl _ _).alloc hs _)).mono HB.out.size)⟩
theorem refbytes_no (w : World) (h p : Int) (hh : U32 h) (hm : mayA h p = false) : Calls Tryd.prog 24 #[.agg #[.int .u32 h, .int .i64 p]] w fun e w' => e = .returned (.slice none 0 0) ∧ Below w.heap.size w w' := by
  obtain ⟨W, hW⟩ : ∃ W, w.alloc (.cells #[.int .u32 h, .int .i64 p] 24) = W := ⟨_, rfl⟩
  have hb : Below w.heap.size w W := by rw [← hW]; exact (Below.refl _ _).alloc (Nat.le_refl _) _
  have hc : W.heap[w.heap.size]? = some (.cells #[.int .u32 h, .int .i64 p] 24 (0, 0)) := by rw [← hW]; exact new_cellsN _ _ _
  have HB := Lib.hid hb
  have d0 := cell_cellsN hc 0 (by simp)
  have d1 := cell_cellsN hc 1 (by simp)
  simp only [List.getElem_toArray, List.getElem_cons_zero, List.getElem_cons_succ] at d0 d1
  have K := refmay_calls W h p hh.1
  rw [hm] at K
  have K := Lib.hid K
  clear hb hc hm
  go_enter Tryd.func24, Tryd.ntmps24
  go_wp2_with (go_at_call 23; refine K.out.mono ?_; rintro e w1 ⟨rfl, hb1⟩; have HB1 := Lib.hid hb1; clear hb1)
  go_ret
  exact ⟨rfl, HB.out.trans (HB1.out.mono HB.out.size)⟩
end Go.Proofs.YtjbhcaifmgbpgaaDoor.Ad
