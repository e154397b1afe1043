-- PRINTED BY print.sh 35421559b90ae4d0a3588c463048766b98c2df88dd9212a6774a882060cdf62d: not written by this session
import Derived.Test.YtnhlmmiocbkpjaaPBackWaitsx0
import Derived.Test.YtnhlmmiocbkpjaaPBackWaitsx1
namespace Go.Proofs.Ytnhlmmiocbkpjaa.PBackWaits
open Go.RowKit Go.Proofs.YtnhlmmiocbkpjaaW.PrintWords Go.Proofs.YtnhlmmiocbkpjaaW.PrintLast Go.Proofs.YtnhlmmiocbkpjaaW.PrintMore
attribute [local go_sem] max2_int min2_int max_two min_two max_three min_three max_four min_four   -- for this text's walks alone
set_option linter.unusedVariables false
set_option linter.unusedSimpArgs false

/-! ### embrasureref07_Sum: function 12 -/
mutual
def embrasureref07_Sum.j0 : Nat → Int → Int → Int → Bool → Option (Int × Int)
  | 0, _, _, _, _ => none
  | k + 1, x0, x1, x2, x23 => if x23 = true then (some (0, 1)) else (embrasureref07_Sum.l0 k x0 x1 x2 0 0)
def embrasureref07_Sum.l0 : Nat → Int → Int → Int → Int → Int → Option (Int × Int)
  | 0, _, _, _, _, _ => none
  | k + 1, x0, x1, x2, x8, x9 => if x9 < x2 then ((embrasureref07_Wait.f k x0 x1 x9).bind fun bt113 => (embrasureref07_Sum.l0 k x0 x1 x2 (wrap64 (x8 + bt113.1)) (wrap64 (x9 + 1)))) else (some (x8, 0))
end
def embrasureref07_Sum.f (k : Nat) (a0 : Int) (a1 : Int) (a2 : Int) : Option (Int × Int) := (embrasureref07_Plan.f a0 a1).bind fun t112 => (if t112 = true then (if a2 < 0 then (embrasureref07_Sum.j0 k a0 a1 a2 true) else (embrasureref07_Sum.j0 k a0 a1 a2 (decide (a2 > 1000)))) else (embrasureref07_Sum.j0 k a0 a1 a2 true))
theorem embrasureref07_Sum.mono_l : ∀ k, (∀ y0 y1 y2 y3, LeO (embrasureref07_Sum.j0 k y0 y1 y2 y3) (embrasureref07_Sum.j0 (k + 1) y0 y1 y2 y3)) ∧ (∀ y0 y1 y2 y3 y4, LeO (embrasureref07_Sum.l0 k y0 y1 y2 y3 y4) (embrasureref07_Sum.l0 (k + 1) y0 y1 y2 y3 y4))
  | 0 => ⟨fun _ _ _ _ r h => by simp [embrasureref07_Sum.j0] at h, fun _ _ _ _ _ r h => by simp [embrasureref07_Sum.l0] at h⟩
  | k + 1 => by
    obtain ⟨ih0, ih1⟩ := embrasureref07_Sum.mono_l k
    refine ⟨?_, ?_⟩
    · intro y0 y1 y2 y3
      unfold embrasureref07_Sum.j0
      repeat' first
      | (with_reducible exact ih0 _ _ _ _)
      | (with_reducible exact ih1 _ _ _ _ _)
      | (with_reducible exact embrasureref07_Wait.mono _ _ _ _)
      | (with_reducible exact LeO.refl _)
      | (with_reducible exact LeO.none _)
      | (with_reducible refine LeO.ite ?_ ?_)
      | (with_reducible refine LeO.bind ?_ (fun _ => ?_))
      | exact ih0 _ _ _ _
      | exact ih1 _ _ _ _ _
      | exact embrasureref07_Wait.mono _ _ _ _
      | exact LeO.none _
      | refine LeO.ite ?_ ?_
      | refine LeO.bind ?_ (fun _ => ?_)
    · intro y0 y1 y2 y3 y4
      unfold embrasureref07_Sum.l0
      repeat' first
      | (with_reducible exact ih0 _ _ _ _)
      | (with_reducible exact ih1 _ _ _ _ _)
      | (with_reducible exact embrasureref07_Wait.mono _ _ _ _)
      | (with_reducible exact LeO.refl _)
      | (with_reducible exact LeO.none _)
      | (with_reducible refine LeO.ite ?_ ?_)
      | (with_reducible refine LeO.bind ?_ (fun _ => ?_))
      | exact ih0 _ _ _ _
      | exact ih1 _ _ _ _ _
      | exact embrasureref07_Wait.mono _ _ _ _
      | exact LeO.none _
      | refine LeO.ite ?_ ?_
      | refine LeO.bind ?_ (fun _ => ?_)
theorem embrasureref07_Sum.mono : ∀ a0 a1 a2 k, LeO (embrasureref07_Sum.f k a0 a1 a2) (embrasureref07_Sum.f (k + 1) a0 a1 a2) := by
  intro a0 a1 a2 k
  obtain ⟨ih0, ih1⟩ := embrasureref07_Sum.mono_l k
  unfold embrasureref07_Sum.f
  repeat' first
      | (with_reducible exact ih0 _ _ _ _)
      | (with_reducible exact ih1 _ _ _ _ _)
      | (with_reducible exact embrasureref07_Wait.mono _ _ _ _)
      | (with_reducible exact LeO.refl _)
      | (with_reducible exact LeO.none _)
      | (with_reducible refine LeO.ite ?_ ?_)
      | (with_reducible refine LeO.bind ?_ (fun _ => ?_))
      | exact ih0 _ _ _ _
      | exact ih1 _ _ _ _ _
      | exact embrasureref07_Wait.mono _ _ _ _
      | exact LeO.none _
      | refine LeO.ite ?_ ?_
      | refine LeO.bind ?_ (fun _ => ?_)
set_option maxHeartbeats 8000000 in
set_option maxRecDepth 100000 in
theorem embrasureref07_Sum.calls (k : Nat) (a0 : Int) (a1 : Int) (a2 : Int) (r1 : Int) (r2 : Int) (w : World) (h : embrasureref07_Sum.f k a0 a1 a2 = some (r1, r2)) :
    Calls Try.prog 12 #[.int .i64 a0, .int .i64 a1, .int .i64 a2] w fun e w' => e = .returned (.tuple #[.int .i64 r1, .int .i64 r2]) ∧ Drawn0 w w' := by
  have H : ((embrasureref07_Plan.f a0 a1).bind fun t112 => (if t112 = true then (if a2 < 0 then (embrasureref07_Sum.j0 k a0 a1 a2 true) else (embrasureref07_Sum.j0 k a0 a1 a2 (decide (a2 > 1000)))) else (embrasureref07_Sum.j0 k a0 a1 a2 true))) = some (r1, r2) := h
  clear h
  have HC4 := Aside0.mk H
  clear H
  go_enter Try.func12, Try.ntmps12
  go_upto_region 1 with (fail)
  go_cut [23] (fun v23 wc => ∃ (kq : Nat) (x23_3 : Bool), v23 = .bool x23_3 ∧ Aside0 (embrasureref07_Sum.j0 kq a0 a1 a2 x23_3 = some (r1, r2)) ∧ Aside0 (kq ≤ k) ∧ Drawn0 w wc)
  case first =>
    have H := HC4.out
    clear HC4
    replace H := Option.bind_eq_some_iff.mp H
    obtain ⟨t112, A50, H⟩ := H
    replace H : (if t112 = true then (if a2 < 0 then (embrasureref07_Sum.j0 k a0 a1 a2 true) else (embrasureref07_Sum.j0 k a0 a1 a2 (decide (a2 > 1000)))) else (embrasureref07_Sum.j0 k a0 a1 a2 true)) = some (r1, r2) := H
    have A5 := Aside0.mk A50
    clear A50
    by_cases c6 : t112 = true
    · subst c6
      have H1 : (if a2 < 0 then (embrasureref07_Sum.j0 k a0 a1 a2 true) else (embrasureref07_Sum.j0 k a0 a1 a2 (decide (a2 > 1000)))) = some (r1, r2) := by rw [if_pos rfl] at H; exact H
      clear H
      have H := H1
      clear H1
      by_cases c7 : a2 < 0
      · rw [if_pos c7] at H
        have c7b0 : decide (a2 < 0) = true := decide_eq_true c7
        clear c7
        (first | rw [c7b0] | (simp only [i64_w, i32_w]; rw [c7b0]) | skip)
        have H' := Aside0.mk H
        clear H
        go_wp2_with (first | ((with_reducible refine gate_callee (f := 16) rfl ?_); refine goesL_ (some 14) rfl rfl Try.func16 (by kernel_rfl) rfl #[.int .i64 a0, .int .i64 a1] rfl (by (try simp only [List.map_toArray, List.map_cons, List.map_nil]); first | done | rfl | (simp only [List.length_drop, List.length_take]; rfl)) ?_; (with_reducible refine (embrasureref07_Plan.calls a0 a1 true _ A5.out).mono ?_); rintro e w' ⟨rfl, ⟨nd, rfl⟩⟩; refine ⟨_, rfl, ?_⟩))
        go_meet
        case rel => exact ⟨_, (true), (by first | rfl | (simp; done) | (simp [*]; done)), H', ⟨by first | omega | exact Nat.le_refl _⟩, by repeat (first | exact Drawn0.refl _ | apply Drawn0.step)⟩
      · rw [if_neg c7] at H
        have c7b0 : decide (a2 < 0) = false := decide_eq_false c7
        clear c7
        (first | rw [c7b0] | (simp only [i64_w, i32_w]; rw [c7b0]) | skip)
        have H' := Aside0.mk H
        clear H
        go_wp2_with (first | ((with_reducible refine gate_callee (f := 16) rfl ?_); refine goesL_ (some 14) rfl rfl Try.func16 (by kernel_rfl) rfl #[.int .i64 a0, .int .i64 a1] rfl (by (try simp only [List.map_toArray, List.map_cons, List.map_nil]); first | done | rfl | (simp only [List.length_drop, List.length_take]; rfl)) ?_; (with_reducible refine (embrasureref07_Plan.calls a0 a1 true _ A5.out).mono ?_); rintro e w' ⟨rfl, ⟨nd, rfl⟩⟩; refine ⟨_, rfl, ?_⟩))
        go_meet
        case rel => exact ⟨_, (decide (a2 > 1000)), (by first | rfl | (simp; done) | (simp [*]; done)), H', ⟨by first | omega | exact Nat.le_refl _⟩, by repeat (first | exact Drawn0.refl _ | apply Drawn0.step)⟩
    · replace c6 := Bool.eq_false_iff.mpr c6
      subst c6
      have H1 : (embrasureref07_Sum.j0 k a0 a1 a2 true) = some (r1, r2) := by rw [if_neg (show ¬ (false = true) by decide)] at H; exact H
      clear H
      have H := H1
      clear H1
      have H' := Aside0.mk H
      clear H
      go_wp2_with (first | ((with_reducible refine gate_callee (f := 16) rfl ?_); refine goesL_ (some 14) rfl rfl Try.func16 (by kernel_rfl) rfl #[.int .i64 a0, .int .i64 a1] rfl (by (try simp only [List.map_toArray, List.map_cons, List.map_nil]); first | done | rfl | (simp only [List.length_drop, List.length_take]; rfl)) ?_; (with_reducible refine (embrasureref07_Plan.calls a0 a1 false _ A5.out).mono ?_); rintro e w' ⟨rfl, ⟨nd, rfl⟩⟩; refine ⟨_, rfl, ?_⟩))
      go_meet
      case rel => exact ⟨_, (true), (by first | rfl | (simp; done) | (simp [*]; done)), H', ⟨by first | omega | exact Nat.le_refl _⟩, by repeat (first | exact Drawn0.refl _ | apply Drawn0.step)⟩
  case rest =>
    clear HC4
    try clear c1
    try clear p2
    try clear c6
    try clear c7
    try clear c7b0
    obtain ⟨kq, x23_3, rfl, HA, HJ3, ⟨mc3, rfl⟩⟩ := hcut
    cases kq with
    | zero => exact absurd HA.out (by simp [embrasureref07_Sum.j0])
    | succ kj3 =>
      have H := HA.out
      clear HA
      simp only [embrasureref07_Sum.j0] at H
      by_cases c8 : x23_3 = true
      · subst c8
        have H1 : (some (0, 1)) = some (r1, r2) := by rw [if_pos rfl] at H; exact H
        clear H
        have H := H1
        clear H1
        simp only [Option.some.injEq, Prod.mk.injEq] at H
        obtain ⟨rfl, rfl⟩ := H
        go_wp2
        go_ret2
        exact ⟨by first | rfl | (simp; done) | (simp [*]; done), by repeat (first | exact Drawn0.refl _ | apply Drawn0.step)⟩
      · replace c8 := Bool.eq_false_iff.mpr c8
        subst c8
        have H1 : (embrasureref07_Sum.l0 kj3 a0 a1 a2 0 0) = some (r1, r2) := by rw [if_neg (show ¬ (false = true) by decide)] at H; exact H
        clear H
        have H := H1
        clear H1
        have H' := Aside0.mk H
        clear H
        go_wp2
        go_loopg [8, 9] kj3 (fun kq v8 v9 w' => ∃ (x8_2 : Int) (x9_2 : Int), v8 = .int .i64 x8_2 ∧ v9 = .int .i64 x9_2 ∧ Aside0 (embrasureref07_Sum.l0 kq a0 a1 a2 x8_2 x9_2 = some (r1, r2)) ∧ Aside0 (kq ≤ kj3) ∧ Drawn0 w w')
        case atStart => exact ⟨(0), (0), (by first | rfl | (simp; done) | (simp [*]; done)), (by first | rfl | (simp; done) | (simp [*]; done)), H', ⟨Nat.le_refl _⟩, by repeat (first | exact Drawn0.refl _ | apply Drawn0.step)⟩
        case round =>
          clear H'
          try clear c1
          try clear p2
          try clear c3
          try clear c6
          try clear c7
          try clear c7b0
          try clear c8
          try clear p2
          obtain ⟨x8_2, x9_2, rfl, rfl, HA, HK2, ⟨m2, rfl⟩⟩ := hrel
          cases gk with
          | zero => exact absurd HA.out (by simp [embrasureref07_Sum.l0])
          | succ k2 =>
            have H := HA.out
            clear HA
            simp only [embrasureref07_Sum.l0] at H
            by_cases c9 : x9_2 < a2
            · rw [if_pos c9] at H
              have c9b0 : decide (x9_2 < a2) = true := decide_eq_true c9
              clear c9
              replace H := Option.bind_eq_some_iff.mp H
              obtain ⟨⟨t113, t114⟩, A100, H⟩ := H
              replace H : (embrasureref07_Sum.l0 k2 a0 a1 a2 (wrap64 (x8_2 + t113)) (wrap64 (x9_2 + 1))) = some (r1, r2) := H
              have A10 := Aside0.mk A100
              clear A100
              have H' := Aside0.mk H
              clear H
              go_wp2_with (first | ((with_reducible refine gate_callee (f := 10) rfl ?_); refine goesL_ (some 33) rfl rfl Try.func10 (by kernel_rfl) rfl #[.int .i64 a0, .int .i64 a1, .int .i64 x9_2] rfl (by (try simp only [List.map_toArray, List.map_cons, List.map_nil]); first | done | rfl | (simp only [List.length_drop, List.length_take]; rfl)) ?_; (with_reducible refine (embrasureref07_Wait.calls k2 a0 a1 x9_2 t113 t114 _ A10.out).mono ?_); rintro e w' ⟨rfl, ⟨nd, rfl⟩⟩; refine ⟨_, rfl, ?_⟩))
              go_roundg k2
              case measure => have := HJ3.out; have := HK2.out; omega
              case rel => exact ⟨(wrap64 (x8_2 + t113)), (wrap64 (x9_2 + 1)), (by first | rfl | (simp; done) | (simp [*]; done)), (by first | rfl | (simp; done) | (simp [*]; done)), H', ⟨by have := HJ3.out; have := HK2.out; omega⟩, by repeat (first | exact Drawn0.refl _ | apply Drawn0.step)⟩
            · rw [if_neg c9] at H
              have c9b0 : decide (x9_2 < a2) = false := decide_eq_false c9
              clear c9
              simp only [Option.some.injEq, Prod.mk.injEq] at H
              obtain ⟨rfl, rfl⟩ := H
              go_wp2
              go_ret2
              exact ⟨by first | rfl | (simp; done) | (simp [*]; done), by repeat (first | exact Drawn0.refl _ | apply Drawn0.step)⟩

/-! ### embrasurelaw07_BackWaits: function 3 -/
def embrasurelaw07_BackWaits.j0 : Nat → Int → Int → Int → Int → Int → Bool → Option (Bool)
  | 0, _, _, _, _, _, _ => none
  | k + 1, x0, x1, x2, x7, x8, x64 => if x64 = true then (some false) else (if x8 = 0 then (if x2 ≥ 1099511627776 then (if x7 = 0 then (some true) else (some (decide (x2 ≥ 1099511627776)))) else ((back_Wait.f k x0 x1 (wrap64 (x2 + 1))).bind fun bt124 => (if bt124.1 ≥ x7 then (if bt124.1 ≤ x1 then (some (decide (x7 ≥ x0))) else (some false)) else (some false)))) else (if x7 = 0 then (some true) else (some (decide (x2 ≥ 1099511627776)))))
def embrasurelaw07_BackWaits.f (k : Nat) (a0 : Int) (a1 : Int) (a2 : Int) : Option (Bool) := (embrasurelaw07_awake.f k).bind fun t115 => (if t115 = true then ((back_Wait.f k a0 a1 a2).bind fun bt116 => ((embrasureref07_Wait.f k a0 a1 a2).bind fun bt118 => ((back_Sum.f k a0 a1 a2).bind fun bt120 => ((embrasureref07_Sum.f k a0 a1 a2).bind fun bt122 => (if bt116.1 = bt118.1 then (if bt116.2 = bt118.2 then (if bt120.1 = bt122.1 then (embrasurelaw07_BackWaits.j0 k a0 a1 a2 bt116.1 bt116.2 (bt120.2 != bt122.2)) else (embrasurelaw07_BackWaits.j0 k a0 a1 a2 bt116.1 bt116.2 true)) else (embrasurelaw07_BackWaits.j0 k a0 a1 a2 bt116.1 bt116.2 true)) else (embrasurelaw07_BackWaits.j0 k a0 a1 a2 bt116.1 bt116.2 true)))))) else (some false))
theorem embrasurelaw07_BackWaits.mono_l : ∀ k, (∀ y0 y1 y2 y3 y4 y5, LeO (embrasurelaw07_BackWaits.j0 k y0 y1 y2 y3 y4 y5) (embrasurelaw07_BackWaits.j0 (k + 1) y0 y1 y2 y3 y4 y5))
  | 0 => fun _ _ _ _ _ _ r h => by simp [embrasurelaw07_BackWaits.j0] at h
  | k + 1 => by
    have ih0 := embrasurelaw07_BackWaits.mono_l k
    · intro y0 y1 y2 y3 y4 y5
      unfold embrasurelaw07_BackWaits.j0
      repeat' first
      | (with_reducible exact ih0 _ _ _ _ _ _)
      | (with_reducible exact back_Sum.mono _ _ _ _)
      | (with_reducible exact back_Wait.mono _ _ _ _)
      | (with_reducible exact embrasurelaw07_awake.mono _)
      | (with_reducible exact embrasureref07_Sum.mono _ _ _ _)
      | (with_reducible exact embrasureref07_Wait.mono _ _ _ _)
      | (with_reducible exact LeO.refl _)
      | (with_reducible exact LeO.none _)
      | (with_reducible refine LeO.ite ?_ ?_)
      | (with_reducible refine LeO.bind ?_ (fun _ => ?_))
      | exact ih0 _ _ _ _ _ _
      | exact back_Sum.mono _ _ _ _
      | exact back_Wait.mono _ _ _ _
      | exact embrasurelaw07_awake.mono _
      | exact embrasureref07_Sum.mono _ _ _ _
      | exact embrasureref07_Wait.mono _ _ _ _
      | exact LeO.none _
      | refine LeO.ite ?_ ?_
      | refine LeO.bind ?_ (fun _ => ?_)
theorem embrasurelaw07_BackWaits.mono : ∀ a0 a1 a2 k, LeO (embrasurelaw07_BackWaits.f k a0 a1 a2) (embrasurelaw07_BackWaits.f (k + 1) a0 a1 a2) := by
  intro a0 a1 a2 k
  have ih0 := embrasurelaw07_BackWaits.mono_l k
  unfold embrasurelaw07_BackWaits.f
  repeat' first
      | (with_reducible exact ih0 _ _ _ _ _ _)
      | (with_reducible exact back_Sum.mono _ _ _ _)
      | (with_reducible exact back_Wait.mono _ _ _ _)
      | (with_reducible exact embrasurelaw07_awake.mono _)
      | (with_reducible exact embrasureref07_Sum.mono _ _ _ _)
      | (with_reducible exact embrasureref07_Wait.mono _ _ _ _)
      | (with_reducible exact LeO.refl _)
      | (with_reducible exact LeO.none _)
      | (with_reducible refine LeO.ite ?_ ?_)
      | (with_reducible refine LeO.bind ?_ (fun _ => ?_))
      | exact ih0 _ _ _ _ _ _
      | exact back_Sum.mono _ _ _ _
      | exact back_Wait.mono _ _ _ _
      | exact embrasurelaw07_awake.mono _
      | exact embrasureref07_Sum.mono _ _ _ _
      | exact embrasureref07_Wait.mono _ _ _ _
      | exact LeO.none _
      | refine LeO.ite ?_ ?_
      | refine LeO.bind ?_ (fun _ => ?_)
set_option maxHeartbeats 8000000 in
set_option maxRecDepth 100000 in
theorem embrasurelaw07_BackWaits.calls (k : Nat) (a0 : Int) (a1 : Int) (a2 : Int) (r : Bool) (w : World) (h : embrasurelaw07_BackWaits.f k a0 a1 a2 = some r) :
    Calls Try.prog 3 #[.int .i64 a0, .int .i64 a1, .int .i64 a2] w fun e w' => e = .returned (.bool r) ∧ Below w.heap.size w w' := by
  have HB := Aside0.mk (Below.refl w.heap.size w)
  have H : ((embrasurelaw07_awake.f k).bind fun t115 => (if t115 = true then ((back_Wait.f k a0 a1 a2).bind fun bt116 => ((embrasureref07_Wait.f k a0 a1 a2).bind fun bt118 => ((back_Sum.f k a0 a1 a2).bind fun bt120 => ((embrasureref07_Sum.f k a0 a1 a2).bind fun bt122 => (if bt116.1 = bt118.1 then (if bt116.2 = bt118.2 then (if bt120.1 = bt122.1 then (embrasurelaw07_BackWaits.j0 k a0 a1 a2 bt116.1 bt116.2 (bt120.2 != bt122.2)) else (embrasurelaw07_BackWaits.j0 k a0 a1 a2 bt116.1 bt116.2 true)) else (embrasurelaw07_BackWaits.j0 k a0 a1 a2 bt116.1 bt116.2 true)) else (embrasurelaw07_BackWaits.j0 k a0 a1 a2 bt116.1 bt116.2 true)))))) else (some false))) = some r := h
  clear h
  replace H := Option.bind_eq_some_iff.mp H
  obtain ⟨t115, A40, H⟩ := H
  replace H : (if t115 = true then ((back_Wait.f k a0 a1 a2).bind fun bt116 => ((embrasureref07_Wait.f k a0 a1 a2).bind fun bt118 => ((back_Sum.f k a0 a1 a2).bind fun bt120 => ((embrasureref07_Sum.f k a0 a1 a2).bind fun bt122 => (if bt116.1 = bt118.1 then (if bt116.2 = bt118.2 then (if bt120.1 = bt122.1 then (embrasurelaw07_BackWaits.j0 k a0 a1 a2 bt116.1 bt116.2 (bt120.2 != bt122.2)) else (embrasurelaw07_BackWaits.j0 k a0 a1 a2 bt116.1 bt116.2 true)) else (embrasurelaw07_BackWaits.j0 k a0 a1 a2 bt116.1 bt116.2 true)) else (embrasurelaw07_BackWaits.j0 k a0 a1 a2 bt116.1 bt116.2 true)))))) else (some false)) = some r := H
  have A4 := Aside0.mk A40
  clear A40
  by_cases c5 : t115 = true
  · subst c5
    have H1 : ((back_Wait.f k a0 a1 a2).bind fun bt116 => ((embrasureref07_Wait.f k a0 a1 a2).bind fun bt118 => ((back_Sum.f k a0 a1 a2).bind fun bt120 => ((embrasureref07_Sum.f k a0 a1 a2).bind fun bt122 => (if bt116.1 = bt118.1 then (if bt116.2 = bt118.2 then (if bt120.1 = bt122.1 then (embrasurelaw07_BackWaits.j0 k a0 a1 a2 bt116.1 bt116.2 (bt120.2 != bt122.2)) else (embrasurelaw07_BackWaits.j0 k a0 a1 a2 bt116.1 bt116.2 true)) else (embrasurelaw07_BackWaits.j0 k a0 a1 a2 bt116.1 bt116.2 true)) else (embrasurelaw07_BackWaits.j0 k a0 a1 a2 bt116.1 bt116.2 true)))))) = some r := by rw [if_pos rfl] at H; exact H
    clear H
    have H := H1
    clear H1
    replace H := Option.bind_eq_some_iff.mp H
    obtain ⟨⟨t116, t117⟩, A60, H⟩ := H
    replace H : ((embrasureref07_Wait.f k a0 a1 a2).bind fun bt118 => ((back_Sum.f k a0 a1 a2).bind fun bt120 => ((embrasureref07_Sum.f k a0 a1 a2).bind fun bt122 => (if t116 = bt118.1 then (if t117 = bt118.2 then (if bt120.1 = bt122.1 then (embrasurelaw07_BackWaits.j0 k a0 a1 a2 t116 t117 (bt120.2 != bt122.2)) else (embrasurelaw07_BackWaits.j0 k a0 a1 a2 t116 t117 true)) else (embrasurelaw07_BackWaits.j0 k a0 a1 a2 t116 t117 true)) else (embrasurelaw07_BackWaits.j0 k a0 a1 a2 t116 t117 true))))) = some r := H
    have A6 := Aside0.mk A60
    clear A60
    replace H := Option.bind_eq_some_iff.mp H
    obtain ⟨⟨t118, t119⟩, A70, H⟩ := H
    replace H : ((back_Sum.f k a0 a1 a2).bind fun bt120 => ((embrasureref07_Sum.f k a0 a1 a2).bind fun bt122 => (if t116 = t118 then (if t117 = t119 then (if bt120.1 = bt122.1 then (embrasurelaw07_BackWaits.j0 k a0 a1 a2 t116 t117 (bt120.2 != bt122.2)) else (embrasurelaw07_BackWaits.j0 k a0 a1 a2 t116 t117 true)) else (embrasurelaw07_BackWaits.j0 k a0 a1 a2 t116 t117 true)) else (embrasurelaw07_BackWaits.j0 k a0 a1 a2 t116 t117 true)))) = some r := H
    have A7 := Aside0.mk A70
    clear A70
    replace H := Option.bind_eq_some_iff.mp H
    obtain ⟨⟨t120, t121⟩, A80, H⟩ := H
    replace H : ((embrasureref07_Sum.f k a0 a1 a2).bind fun bt122 => (if t116 = t118 then (if t117 = t119 then (if t120 = bt122.1 then (embrasurelaw07_BackWaits.j0 k a0 a1 a2 t116 t117 (t121 != bt122.2)) else (embrasurelaw07_BackWaits.j0 k a0 a1 a2 t116 t117 true)) else (embrasurelaw07_BackWaits.j0 k a0 a1 a2 t116 t117 true)) else (embrasurelaw07_BackWaits.j0 k a0 a1 a2 t116 t117 true))) = some r := H
    have A8 := Aside0.mk A80
    clear A80
    replace H := Option.bind_eq_some_iff.mp H
    obtain ⟨⟨t122, t123⟩, A90, H⟩ := H
    replace H : (if t116 = t118 then (if t117 = t119 then (if t120 = t122 then (embrasurelaw07_BackWaits.j0 k a0 a1 a2 t116 t117 (t121 != t123)) else (embrasurelaw07_BackWaits.j0 k a0 a1 a2 t116 t117 true)) else (embrasurelaw07_BackWaits.j0 k a0 a1 a2 t116 t117 true)) else (embrasurelaw07_BackWaits.j0 k a0 a1 a2 t116 t117 true)) = some r := H
    have A9 := Aside0.mk A90
    clear A90
    have HC10 := Aside0.mk H
    clear H
    go_enter Try.func3, Try.ntmps3
    go_upto_region 7 with (first | ((with_reducible refine gate_callee (f := 8) rfl ?_); refine goesL_ (some 17) rfl rfl Try.func8 (by kernel_rfl) rfl #[] rfl (by (try simp only [List.map_toArray, List.map_cons, List.map_nil]); first | done | rfl | (simp only [List.length_drop, List.length_take]; rfl)) ?_; (with_reducible refine (embrasurelaw07_awake.calls k  true _ A4.out).mono ?_); rintro e w11 ⟨rfl, hb⟩; refine ⟨_, rfl, ?_⟩; have n0_ := Aside0.mk (below_step (by repeat (first | (with_reducible first | exact HB.out | apply below_alloc | apply pw_below_drewN | apply below_drew1) | exact HB.out)) hb); clear HB; have HB := n0_; clear n0_; (try clear hb); (try clear hb2); (try clear hk); (try clear hi)) | ((with_reducible refine gate_callee (f := 9) rfl ?_); refine goesL_ (some 23) rfl rfl Try.func9 (by kernel_rfl) rfl #[.int .i64 a0, .int .i64 a1, .int .i64 a2] rfl (by (try simp only [List.map_toArray, List.map_cons, List.map_nil]); first | done | rfl | (simp only [List.length_drop, List.length_take]; rfl)) ?_; (with_reducible refine (back_Wait.calls k a0 a1 a2 t116 t117 _ A6.out).mono ?_); rintro e w12 ⟨rfl, hb⟩; refine ⟨_, rfl, ?_⟩; have n0_ := Aside0.mk (below_step (by repeat (first | (with_reducible first | exact HB.out | apply below_alloc | apply pw_below_drewN | apply below_drew1) | exact HB.out)) hb); clear HB; have HB := n0_; clear n0_; (try clear hb); (try clear hb2); (try clear hk); (try clear hi)) | ((with_reducible refine gate_callee (f := 10) rfl ?_); refine goesL_ (some 30) rfl rfl Try.func10 (by kernel_rfl) rfl #[.int .i64 a0, .int .i64 a1, .int .i64 a2] rfl (by (try simp only [List.map_toArray, List.map_cons, List.map_nil]); first | done | rfl | (simp only [List.length_drop, List.length_take]; rfl)) ?_; (with_reducible refine (embrasureref07_Wait.calls k a0 a1 a2 t118 t119 _ A7.out).mono ?_); rintro e w' ⟨rfl, ⟨nd, rfl⟩⟩; refine ⟨_, rfl, ?_⟩) | ((with_reducible refine gate_callee (f := 11) rfl ?_); refine goesL_ (some 37) rfl rfl Try.func11 (by kernel_rfl) rfl #[.int .i64 a0, .int .i64 a1, .int .i64 a2] rfl (by (try simp only [List.map_toArray, List.map_cons, List.map_nil]); first | done | rfl | (simp only [List.length_drop, List.length_take]; rfl)) ?_; (with_reducible refine (back_Sum.calls k a0 a1 a2 t120 t121 _ A8.out).mono ?_); rintro e w13 ⟨rfl, hb⟩; refine ⟨_, rfl, ?_⟩; have n0_ := Aside0.mk (below_step (by repeat (first | (with_reducible first | exact HB.out | apply below_alloc | apply pw_below_drewN | apply below_drew1) | exact HB.out)) hb); clear HB; have HB := n0_; clear n0_; (try clear hb); (try clear hb2); (try clear hk); (try clear hi)) | ((with_reducible refine gate_callee (f := 12) rfl ?_); refine goesL_ (some 44) rfl rfl Try.func12 (by kernel_rfl) rfl #[.int .i64 a0, .int .i64 a1, .int .i64 a2] rfl (by (try simp only [List.map_toArray, List.map_cons, List.map_nil]); first | done | rfl | (simp only [List.length_drop, List.length_take]; rfl)) ?_; (with_reducible refine (embrasureref07_Sum.calls k a0 a1 a2 t122 t123 _ A9.out).mono ?_); rintro e w' ⟨rfl, ⟨nd, rfl⟩⟩; refine ⟨_, rfl, ?_⟩))
    (try simp only [Act.put, List.setIfInBounds_toArray, List.set_cons_zero, List.set_cons_succ])
    go_cut [64] (fun v64 wc => ∃ (kq : Nat) (x64_9 : Bool), v64 = .bool x64_9 ∧ Aside0 (embrasurelaw07_BackWaits.j0 kq a0 a1 a2 t116 t117 x64_9 = some r) ∧ Aside0 (kq ≤ k) ∧ Aside0 (Below w.heap.size w wc))
    case first =>
      have H := HC10.out
      clear HC10
      by_cases c14 : t116 = t118
      · rw [if_pos c14] at H
        have c14b0 : (t116 == t118) = true := beq_iff_eq.mpr c14
        have c14b1 : (t116 != t118) = false := bne_eq_false_iff_eq.mpr c14
        clear c14
        (first | rw [c14b0] | (simp only [i64_w, i32_w]; rw [c14b0]) | skip)
        by_cases c15 : t117 = t119
        · rw [if_pos c15] at H
          have c15b0 : (t117 == t119) = true := beq_iff_eq.mpr c15
          have c15b1 : (t117 != t119) = false := bne_eq_false_iff_eq.mpr c15
          clear c15
          by_cases c16 : t120 = t122
          · rw [if_pos c16] at H
            have c16b0 : (t120 == t122) = true := beq_iff_eq.mpr c16
            have c16b1 : (t120 != t122) = false := bne_eq_false_iff_eq.mpr c16
            clear c16
            have H' := Aside0.mk H
            clear H
            go_wp2
            go_meet
            case rel => exact ⟨_, ((t121 != t123)), (by first | rfl | (simp; done) | (simp [*]; done)), H', ⟨by first | omega | exact Nat.le_refl _⟩, ⟨by repeat (first | (with_reducible first | exact HB.out | apply below_alloc | apply pw_below_drewN | apply below_drew1) | exact HB.out)⟩⟩
          · rw [if_neg c16] at H
            have c16b0 : (t120 == t122) = false := beq_eq_false_iff_ne.mpr c16
            have c16b1 : (t120 != t122) = true := bne_iff_ne.mpr c16
            have H' := Aside0.mk H
            clear H
            go_wp2
            go_meet
            case rel => exact ⟨_, (true), (by first | rfl | (simp; done) | (simp [*]; done)), H', ⟨by first | omega | exact Nat.le_refl _⟩, ⟨by repeat (first | (with_reducible first | exact HB.out | apply below_alloc | apply pw_below_drewN | apply below_drew1) | exact HB.out)⟩⟩
        · rw [if_neg c15] at H
          have c15b0 : (t117 == t119) = false := beq_eq_false_iff_ne.mpr c15
          have c15b1 : (t117 != t119) = true := bne_iff_ne.mpr c15
          have H' := Aside0.mk H
          clear H
          go_wp2
          go_meet
          case rel => exact ⟨_, (true), (by first | rfl | (simp; done) | (simp [*]; done)), H', ⟨by first | omega | exact Nat.le_refl _⟩, ⟨by repeat (first | (with_reducible first | exact HB.out | apply below_alloc | apply pw_below_drewN | apply below_drew1) | exact HB.out)⟩⟩
      · rw [if_neg c14] at H
        have c14b0 : (t116 == t118) = false := beq_eq_false_iff_ne.mpr c14
        have c14b1 : (t116 != t118) = true := bne_iff_ne.mpr c14
        (first | rw [c14b0] | (simp only [i64_w, i32_w]; rw [c14b0]) | skip)
        have H' := Aside0.mk H
        clear H
        go_wp2
        go_meet
        case rel => exact ⟨_, (true), (by first | rfl | (simp; done) | (simp [*]; done)), H', ⟨by first | omega | exact Nat.le_refl _⟩, ⟨by repeat (first | (with_reducible first | exact HB.out | apply below_alloc | apply pw_below_drewN | apply below_drew1) | exact HB.out)⟩⟩
    case rest =>
      clear HC10
      try clear c1
      try clear p2
      try clear c3
      try clear c5
      try clear c8
      try clear c9
      try clear c10
      try clear c11
      try clear c12
      try clear c14
      try clear c14b0
      try clear c14b1
      try clear c15
      try clear c15b0
      try clear c15b1
      try clear c16
      try clear c16b0
      try clear c16b1
      obtain ⟨kq, x64_9, rfl, HA, HJ9, HB⟩ := hcut
      cases kq with
      | zero => exact absurd HA.out (by simp [embrasurelaw07_BackWaits.j0])
      | succ kj9 =>
        have H := HA.out
        clear HA
        simp only [embrasurelaw07_BackWaits.j0] at H
        by_cases c17 : x64_9 = true
        · subst c17
          have H1 : (some false) = some r := by rw [if_pos rfl] at H; exact H
          clear H
          have H := H1
          clear H1
          obtain rfl := Option.some.inj H
          go_wp2
          go_ret
          exact ⟨by first | rfl | (simp [errW_none, errW_some] <;> rfl) | (simp [*, errW_none, errW_some] <;> rfl), by repeat (first | (with_reducible first | exact HB.out | apply below_alloc | apply pw_below_drewN | apply below_drew1) | exact HB.out)⟩
        · replace c17 := Bool.eq_false_iff.mpr c17
          subst c17
          have H1 : (if t117 = 0 then (if a2 ≥ 1099511627776 then (if t116 = 0 then (some true) else (some (decide (a2 ≥ 1099511627776)))) else ((back_Wait.f kj9 a0 a1 (wrap64 (a2 + 1))).bind fun bt124 => (if bt124.1 ≥ t116 then (if bt124.1 ≤ a1 then (some (decide (t116 ≥ a0))) else (some false)) else (some false)))) else (if t116 = 0 then (some true) else (some (decide (a2 ≥ 1099511627776))))) = some r := by rw [if_neg (show ¬ (false = true) by decide)] at H; exact H
          clear H
          have H := H1
          clear H1
          by_cases c18 : t117 = 0
          · rw [if_pos c18] at H
            have c18b0 : (t117 == 0) = true := beq_iff_eq.mpr c18
            have c18b1 : (t117 != 0) = false := bne_eq_false_iff_eq.mpr c18
            clear c18
            by_cases c19 : a2 ≥ 1099511627776
            · rw [if_pos c19] at H
              have c19b0 : decide (1099511627776 ≤ a2) = true := decide_eq_true c19
              clear c19
              by_cases c20 : t116 = 0
              · rw [if_pos c20] at H
                have c20b0 : (t116 == 0) = true := beq_iff_eq.mpr c20
                have c20b1 : (t116 != 0) = false := bne_eq_false_iff_eq.mpr c20
                clear c20
                obtain rfl := Option.some.inj H
                go_wp2
                go_ret
                exact ⟨by first | rfl | (simp [errW_none, errW_some] <;> rfl) | (simp [*, errW_none, errW_some] <;> rfl), by repeat (first | (with_reducible first | exact HB.out | apply below_alloc | apply pw_below_drewN | apply below_drew1) | exact HB.out)⟩
              · rw [if_neg c20] at H
                have c20b0 : (t116 == 0) = false := beq_eq_false_iff_ne.mpr c20
                have c20b1 : (t116 != 0) = true := bne_iff_ne.mpr c20
                obtain rfl := Option.some.inj H
                go_wp2
                go_ret
                exact ⟨by first | rfl | (simp [errW_none, errW_some] <;> rfl) | (simp [*, errW_none, errW_some] <;> rfl), by repeat (first | (with_reducible first | exact HB.out | apply below_alloc | apply pw_below_drewN | apply below_drew1) | exact HB.out)⟩
            · rw [if_neg c19] at H
              have c19b0 : decide (1099511627776 ≤ a2) = false := decide_eq_false c19
              clear c19
              replace H := Option.bind_eq_some_iff.mp H
              obtain ⟨⟨t124, t125⟩, A210, H⟩ := H
              replace H : (if t124 ≥ t116 then (if t124 ≤ a1 then (some (decide (t116 ≥ a0))) else (some false)) else (some false)) = some r := H
              have A21 := Aside0.mk A210
              clear A210
              by_cases c22 : t124 ≥ t116
              · rw [if_pos c22] at H
                have c22b0 : decide (t116 ≤ t124) = true := decide_eq_true c22
                clear c22
                by_cases c23 : t124 ≤ a1
                · rw [if_pos c23] at H
                  have c23b0 : decide (t124 ≤ a1) = true := decide_eq_true c23
                  clear c23
                  obtain rfl := Option.some.inj H
                  go_wp2_with (first | ((with_reducible refine gate_callee (f := 9) rfl ?_); refine goesL_ (some 82) rfl rfl Try.func9 (by kernel_rfl) rfl #[.int .i64 a0, .int .i64 a1, .int .i64 (wrap64 (a2 + 1))] rfl (by (try simp only [List.map_toArray, List.map_cons, List.map_nil]); first | done | rfl | (simp only [List.length_drop, List.length_take]; rfl)) ?_; (with_reducible refine (back_Wait.calls kj9 a0 a1 (wrap64 (a2 + 1)) t124 t125 _ A21.out).mono ?_); rintro e w24 ⟨rfl, hb⟩; refine ⟨_, rfl, ?_⟩; have n0_ := Aside0.mk (below_step (by repeat (first | (with_reducible first | exact HB.out | apply below_alloc | apply pw_below_drewN | apply below_drew1) | exact HB.out)) hb); clear HB; have HB := n0_; clear n0_; (try clear hb); (try clear hb2); (try clear hk); (try clear hi)))
                  go_ret
                  exact ⟨by first | rfl | (simp [errW_none, errW_some] <;> rfl) | (simp [*, errW_none, errW_some] <;> rfl), by repeat (first | (with_reducible first | exact HB.out | apply below_alloc | apply pw_below_drewN | apply below_drew1) | exact HB.out)⟩
                · rw [if_neg c23] at H
                  have c23b0 : decide (t124 ≤ a1) = false := decide_eq_false c23
                  clear c23
                  obtain rfl := Option.some.inj H
                  go_wp2_with (first | ((with_reducible refine gate_callee (f := 9) rfl ?_); refine goesL_ (some 82) rfl rfl Try.func9 (by kernel_rfl) rfl #[.int .i64 a0, .int .i64 a1, .int .i64 (wrap64 (a2 + 1))] rfl (by (try simp only [List.map_toArray, List.map_cons, List.map_nil]); first | done | rfl | (simp only [List.length_drop, List.length_take]; rfl)) ?_; (with_reducible refine (back_Wait.calls kj9 a0 a1 (wrap64 (a2 + 1)) t124 t125 _ A21.out).mono ?_); rintro e w25 ⟨rfl, hb⟩; refine ⟨_, rfl, ?_⟩; have n0_ := Aside0.mk (below_step (by repeat (first | (with_reducible first | exact HB.out | apply below_alloc | apply pw_below_drewN | apply below_drew1) | exact HB.out)) hb); clear HB; have HB := n0_; clear n0_; (try clear hb); (try clear hb2); (try clear hk); (try clear hi)))
                  go_ret
                  exact ⟨by first | rfl | (simp [errW_none, errW_some] <;> rfl) | (simp [*, errW_none, errW_some] <;> rfl), by repeat (first | (with_reducible first | exact HB.out | apply below_alloc | apply pw_below_drewN | apply below_drew1) | exact HB.out)⟩
              · rw [if_neg c22] at H
                have c22b0 : decide (t116 ≤ t124) = false := decide_eq_false c22
                clear c22
                obtain rfl := Option.some.inj H
                go_wp2_with (first | ((with_reducible refine gate_callee (f := 9) rfl ?_); refine goesL_ (some 82) rfl rfl Try.func9 (by kernel_rfl) rfl #[.int .i64 a0, .int .i64 a1, .int .i64 (wrap64 (a2 + 1))] rfl (by (try simp only [List.map_toArray, List.map_cons, List.map_nil]); first | done | rfl | (simp only [List.length_drop, List.length_take]; rfl)) ?_; (with_reducible refine (back_Wait.calls kj9 a0 a1 (wrap64 (a2 + 1)) t124 t125 _ A21.out).mono ?_); rintro e w26 ⟨rfl, hb⟩; refine ⟨_, rfl, ?_⟩; have n0_ := Aside0.mk (below_step (by repeat (first | (with_reducible first | exact HB.out | apply below_alloc | apply pw_below_drewN | apply below_drew1) | exact HB.out)) hb); clear HB; have HB := n0_; clear n0_; (try clear hb); (try clear hb2); (try clear hk); (try clear hi)))
                go_ret
                exact ⟨by first | rfl | (simp [errW_none, errW_some] <;> rfl) | (simp [*, errW_none, errW_some] <;> rfl), by repeat (first | (with_reducible first | exact HB.out | apply below_alloc | apply pw_below_drewN | apply below_drew1) | exact HB.out)⟩
          · rw [if_neg c18] at H
            have c18b0 : (t117 == 0) = false := beq_eq_false_iff_ne.mpr c18
            have c18b1 : (t117 != 0) = true := bne_iff_ne.mpr c18
            by_cases c27 : t116 = 0
            · rw [if_pos c27] at H
              have c27b0 : (t116 == 0) = true := beq_iff_eq.mpr c27
              have c27b1 : (t116 != 0) = false := bne_eq_false_iff_eq.mpr c27
              clear c27
              obtain rfl := Option.some.inj H
              go_wp2
              go_ret
              exact ⟨by first | rfl | (simp [errW_none, errW_some] <;> rfl) | (simp [*, errW_none, errW_some] <;> rfl), by repeat (first | (with_reducible first | exact HB.out | apply below_alloc | apply pw_below_drewN | apply below_drew1) | exact HB.out)⟩
            · rw [if_neg c27] at H
              have c27b0 : (t116 == 0) = false := beq_eq_false_iff_ne.mpr c27
              have c27b1 : (t116 != 0) = true := bne_iff_ne.mpr c27
              obtain rfl := Option.some.inj H
              go_wp2
              go_ret
              exact ⟨by first | rfl | (simp [errW_none, errW_some] <;> rfl) | (simp [*, errW_none, errW_some] <;> rfl), by repeat (first | (with_reducible first | exact HB.out | apply below_alloc | apply pw_below_drewN | apply below_drew1) | exact HB.out)⟩
  · replace c5 := Bool.eq_false_iff.mpr c5
    subst c5
    have H1 : (some false) = some r := by rw [if_neg (show ¬ (false = true) by decide)] at H; exact H
    clear H
    have H := H1
    clear H1
    obtain rfl := Option.some.inj H
    go_enter Try.func3, Try.ntmps3
    go_wp2_with (first | ((with_reducible refine gate_callee (f := 8) rfl ?_); refine goesL_ (some 17) rfl rfl Try.func8 (by kernel_rfl) rfl #[] rfl (by (try simp only [List.map_toArray, List.map_cons, List.map_nil]); first | done | rfl | (simp only [List.length_drop, List.length_take]; rfl)) ?_; (with_reducible refine (embrasurelaw07_awake.calls k  false _ A4.out).mono ?_); rintro e w28 ⟨rfl, hb⟩; refine ⟨_, rfl, ?_⟩; have n0_ := Aside0.mk (below_step (by repeat (first | (with_reducible first | exact HB.out | apply below_alloc | apply pw_below_drewN | apply below_drew1) | exact HB.out)) hb); clear HB; have HB := n0_; clear n0_; (try clear hb); (try clear hb2); (try clear hk); (try clear hi)))
    go_ret
    exact ⟨by first | rfl | (simp [errW_none, errW_some] <;> rfl) | (simp [*, errW_none, errW_some] <;> rfl), by repeat (first | (with_reducible first | exact HB.out | apply below_alloc | apply pw_below_drewN | apply below_drew1) | exact HB.out)⟩

/-- THE ONE PURE STATEMENT of embrasurelaw07_BackWaits: yours. -/
def embrasurelaw07_BackWaits.Pure : Prop := ∀ (a0 : Int) (a1 : Int) (a2 : Int), (Lit.int .i64 a0).wf = true → (Lit.int .i64 a1).wf = true → (Lit.int .i64 a2).wf = true → ∃ k, embrasurelaw07_BackWaits.f k a0 a1 a2 = some true
theorem embrasurelaw07_BackWaits.walk (P : embrasurelaw07_BackWaits.Pure) (a0 : Int) (a1 : Int) (a2 : Int) (w : World) (w0 : (Lit.int .i64 a0).wf = true) (w1 : (Lit.int .i64 a1).wf = true) (w2 : (Lit.int .i64 a2).wf = true) :
    Calls Try.prog 3 #[.int .i64 a0, .int .i64 a1, .int .i64 a2] w fun e w' => e = .returned (.bool true) ∧ Below w.heap.size w w' := by
  obtain ⟨k, h⟩ := P a0 a1 a2 w0 w1 w2
  refine (embrasurelaw07_BackWaits.calls k a0 a1 a2 true w h).mono ?_
  rintro e w' ⟨rfl, hd⟩
  exact ⟨rfl, hd⟩

end Go.Proofs.Ytnhlmmiocbkpjaa.PBackWaits
