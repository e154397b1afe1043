/-
  resv: a new table; awake. Conditions: numbers are of their kinds.
-/
import Derived.Test.YtglpjoijkinlbaaRf
import Derived.Test.YtglpjoijkinlbaaRg
namespace Go.Proofs.Ytglpjoijkinlbaa.Rv
open Go.RowKit Go.Maps Go.Shelf Go.Proofs.YtglpjoijkinlbaaW.PrintWords Go.Proofs.YtglpjoijkinlbaaW.PrintLast Go.Proofs.YtglpjoijkinlbaaW.PrintMore
set_option linter.unusedVariables false
set_option linter.unusedSimpArgs false
attribute [local go_sem] Oper.semAt_some
theorem mayL_iff (l : LimV) : mayL l = true ↔ (0 ≤ l.1 ∧ l.1 ≤ 100) ∧ (0 ≤ l.2.1 ∧ l.2.1 ≤ 100) ∧ (0 ≤ l.2.2.1 ∧ l.2.2.1 ≤ 100) ∧ (1 ≤ l.2.2.2.1 ∧ l.2.2.2.1 ≤ 1099511627776 ∧ 1 ≤ l.2.2.2.2.1 ∧ l.2.2.2.2.1 ≤ 1099511627776) ∧ (0 ≤ l.2.2.2.2.2 ∧ l.2.2.2.2.2 ≤ 1073741824) := by
  unfold mayL mayT inW
  simp only [Bool.and_eq_true, decide_eq_true_eq]
theorem new_bad (W : World) (a b c d e f : Int) (h : mayL (a, b, c, d, e, f) = false) : Calls Try.prog 8 #[.agg #[.int .i64 a, .int .i64 b, .int .i64 c, .int .i64 d, .int .i64 e, .int .i64 f]] W fun en w' => en = .returned (.tuple #[.pointer none, .int .i64 1]) ∧ W.grownBy w' none := by
  obtain ⟨X, hX⟩ : ∃ X, W.alloc (.cells #[.int .i64 a, .int .i64 b, .int .i64 c, .int .i64 d, .int .i64 e, .int .i64 f] 23) = X := ⟨_, rfl⟩
  have hg : W.grownBy X none := by rw [← hX]; exact World.grownBy_alloc W _ none
  have hc := new_cellsN W 23 #[.int .i64 a, .int .i64 b, .int .i64 c, .int .i64 d, .int .i64 e, .int .i64 f]
  rw [hX] at hc
  have c0 := cell_cellsN hc 0 (by simp)
  have c1 := cell_cellsN hc 1 (by simp)
  have c2 := cell_cellsN hc 2 (by simp)
  have c3 := cell_cellsN hc 3 (by simp)
  have c4 := cell_cellsN hc 4 (by simp)
  have c5 := cell_cellsN hc 5 (by simp)
  simp only [List.getElem_toArray, List.getElem_cons_zero, List.getElem_cons_succ] at c0 c1 c2 c3 c4 c5
  have HG := Lib.hid hg
  have K := rvmay_calls X a b c d e f
  rw [h] at K
  have K := Lib.hid K
  clear hg hc h
  go_enter Try.func8, Try.ntmps8
  go_wp2_with (go_at_call 11; refine K.out.mono ?_; rintro en w2 ⟨rfl, hg2⟩)
  go_ret2
  exact ⟨rfl, World.grownBy.trans HG.out hg2⟩
theorem new_calls (W : World) (a b c d e f : Int) (h : mayL (a, b, c, d, e, f) = true) : Calls Try.prog 8 #[.agg #[.int .i64 a, .int .i64 b, .int .i64 c, .int .i64 d, .int .i64 e, .int .i64 f]] W fun en w' => ∃ g bm, en = .returned (.tuple #[.pointer (some ⟨g, 0, none⟩), .int .i64 0]) ∧ TabAt w' g bm 0 (a, b, c, d, e, f) [] 0 ∧ W.heap.size ≤ g ∧ W.heap.size ≤ bm ∧ W.grownBy w' none := by
  obtain ⟨X, hX⟩ : ∃ X, W.alloc (.cells #[.int .i64 a, .int .i64 b, .int .i64 c, .int .i64 d, .int .i64 e, .int .i64 f] 23) = X := ⟨_, rfl⟩
  have hg : W.grownBy X none := by rw [← hX]; exact World.grownBy_alloc W _ none
  have hc := new_cellsN W 23 #[.int .i64 a, .int .i64 b, .int .i64 c, .int .i64 d, .int .i64 e, .int .i64 f]
  rw [hX] at hc
  have hlt := (Array.getElem?_eq_some_iff.1 hc).1
  have HC := Lib.hid (fun (V : World) (hV : X.grownBy V none) => (hV.block W.heap.size hlt (by simp)).trans hc)
  have c0 := cell_cellsN hc 0 (by simp)
  have c1 := cell_cellsN hc 1 (by simp)
  have c2 := cell_cellsN hc 2 (by simp)
  have c3 := cell_cellsN hc 3 (by simp)
  have c4 := cell_cellsN hc 4 (by simp)
  have c5 := cell_cellsN hc 5 (by simp)
  simp only [List.getElem_toArray, List.getElem_cons_zero, List.getElem_cons_succ] at c0 c1 c2 c3 c4 c5
  have HG := Lib.hid hg
  have K := rvmay_calls X a b c d e f
  rw [h] at K
  have K := Lib.hid K
  clear hg hc h hlt
  go_enter Try.func8, Try.ntmps8
  go_upto_region 3 with (go_at_call 11; refine K.out.mono ?_; rintro en w2 ⟨rfl, hg2⟩)
  clear c0 c1 c2 c3 c4 c5 hX
  have hc := HC.out w2 hg2
  have c0 := cell_cellsN hc 0 (by simp)
  have c1 := cell_cellsN hc 1 (by simp)
  have c2 := cell_cellsN hc 2 (by simp)
  have c3 := cell_cellsN hc 3 (by simp)
  have c4 := cell_cellsN hc 4 (by simp)
  have c5 := cell_cellsN hc 5 (by simp)
  simp only [List.getElem_toArray, List.getElem_cons_zero, List.getElem_cons_succ] at c0 c1 c2 c3 c4 c5
  have hmm := @run_makeMap Try.prog
  go_wp2
  go_ret2
  have hs := HG.out.size
  have hs2 := hg2.size
  have hown := (World.ownsMap_made (H := Unit) w2 Try.prog 3 heldR).alloc (.cells (tabC (a, b, c, d, e, f) w2.heap.size 0) 51)
  refine ⟨_, w2.heap.size, rfl, ⟨by have h := new_cellsN (w2.alloc (.map #[] 0)) 51 (tabC (a, b, c, d, e, f) w2.heap.size 0); rw [World.size_alloc] at h; exact h, hown⟩, ?_, by omega, ?_⟩
  · omega
  · exact World.grownBy.trans (World.grownBy.trans HG.out hg2) (World.grownBy.trans (World.grownBy_alloc w2 _ none) (World.grownBy_alloc _ _ none))
/-! ### awake -/
theorem ris_nil : Ris [] := List.Pairwise.nil
set_option maxRecDepth 100000 in
set_option maxHeartbeats 4000000 in
theorem awake_calls (W : World) : Calls Try.prog 7 #[] W fun e w' => e = .returned (.bool true) ∧ Below W.heap.size W w' := by
  have K1 := Lib.hid (new_calls W 2 1 0 10 1 0 (by decide))
  have q25 : ∀ (w : World) (a : Addr), (binOp .eql 26 (.pointer (some a)) (.pointer none)).run Try.prog w = .ok (.bool false) w := fun w a => by kernel_rfl
  go_enter Try.func7, Try.ntmps7
  go_upto_region 4 with (go_at_call 8; refine K1.out.mono ?_; rintro e w1 ⟨g, bm, rfl, hT1, hg, hbm, hg1⟩)
  have K2 := Lib.hid (res_calls w1 g bm 0 (2, 1, 0, 10, 1, 0) [] 0 1 7 5 hT1 (by unfold okRes; omega) ris_nil (by omega) (by simp) (by decide) (by omega))
  have E2 : resG (2, 1, 0, 10, 1, 0) (overL [] 1) 1 7 5 = (11, 0, [(7, 5, 11)]) := by decide
  rw [E2] at K2
  have HB1 := Lib.hid (show Below W.heap.size W w1 from ⟨hg1.os, hg1.tape, hg1.output, hg1.size, fun i hi => hg1.block i hi (by simp)⟩)
  clear hT1 hg1 E2
  go_upto_region 5 with (go_at_call 10; with_reducible refine K2.out.mono ?_; rintro e w2 ⟨n2, hn2, rfl, hT2, ht2⟩)
  have K3' := Lib.hid (res_calls w2 g bm n2 (2, 1, 0, 10, 1, 0) [(7, 5, 11)] 1 1 8 5 hT2 (by unfold okRes; omega) (List.pairwise_singleton _ _) (by omega) (by simp) (by decide) (by omega))
  have E3 : resG (2, 1, 0, 10, 1, 0) (overL [(7, 5, 11)] 1) 1 8 5 = (0, 7, [(7, 5, 11)]) := by decide
  rw [E3] at K3'
  have HB2 := Lib.hid (Touch.below HB1.out ht2 hg hbm HB1.out.size)
  clear hT2 ht2 E3
  go_upto_region 6 with (go_at_call 10; with_reducible refine K3'.out.mono ?_; rintro e w3 ⟨n3, hn3, rfl, hT3, ht3⟩)
  have K4 := Lib.hid (has_calls w3 g bm n3 (2, 1, 0, 10, 1, 0) [(7, 5, 11)] 1 10 7 hT3 (by unfold I64; omega))
  have E4 : overL [(7, 5, 11)] (onT 1 10) = [(7, 5, 11)] ∧ onT 1 10 = 10 ∧ hasL [(7, 5, 11)] 7 = true := by decide
  rw [E4.1, E4.2.1, E4.2.2] at K4
  have HB3 := Lib.hid (Touch.below HB2.out ht3 hg hbm HB2.out.size)
  clear hT3 ht3 E4
  go_upto_region 7 with (go_at_call 12; with_reducible refine K4.out.mono ?_; rintro e w4 ⟨rfl, hT4, ht4⟩)
  have K5 := Lib.hid (has_calls w4 g bm n3 (2, 1, 0, 10, 1, 0) [(7, 5, 11)] 10 11 7 hT4 (by unfold I64; omega))
  have E5 : overL [(7, 5, 11)] (onT 10 11) = [] ∧ onT 10 11 = 11 ∧ hasL [] 7 = false := by decide
  rw [E5.1, E5.2.1, E5.2.2] at K5
  have HB4 := Lib.hid (Touch.below HB3.out ht4 hg hbm HB3.out.size)
  clear hT4 ht4 E5
  go_wp2_with (go_at_call 12; with_reducible refine K5.out.mono ?_; rintro e w5 ⟨rfl, hT5, ht5⟩)
  go_ret
  exact ⟨rfl, Touch.below HB4.out ht5 hg hbm HB4.out.size⟩
end Go.Proofs.Ytglpjoijkinlbaa.Rv
