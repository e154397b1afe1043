-- Out of handprint.py, a program of this session that turns the kit's print: not the kit's print itself. Lean checks it.
import Derived.Test.YtklcggcejaecdaaJx0
import Derived.Test.YtklcggcejaecdaaJx3
import Derived.Test.YtklcggcejaecdaaJx4
import Derived.Test.YtklcggcejaecdaaJx7
namespace Go.Proofs.Ytklcggcejaecdaa.J
open Go.RowKit Go.Proofs.YtklcggcejaecdaaW.PrintWords Go.Proofs.YtklcggcejaecdaaW.PrintLast Go.Proofs.YtklcggcejaecdaaW.PrintMore
attribute [local go_sem] max2_int min2_int max_two min_two max_three min_three max_four min_four   -- for this text's walks alone
set_option linter.unusedVariables false
set_option linter.unusedSimpArgs false

/-! ### embrasureref05_FromBytes: function 20 -/
mutual
def embrasureref05_FromBytes.j0 : Nat → List Int → Int → Int → Bool → Option (Int × List Int × (List (S45)) × List Int × Int)
  | 0, _, _, _, _ => none
  | k + 1, x0, x4, x5, x34 => if x34 = true then (some (0, ([] : List Int), ([] : List (S45)), ([] : List Int), 3)) else (embrasureref05_FromBytes.l0 k x0 x5 0 (wrap64 (x4)) ([] : List Int))
def embrasureref05_FromBytes.l0 : Nat → List Int → Int → Int → Int → List Int → Option (Int × List Int × (List (S45)) × List Int × Int)
  | 0, _, _, _, _, _ => none
  | k + 1, x0, x5, x8, x217000, x217001 => (embrasureref05_Nums.f k x217000).bind fun t217 => (if x8 < t217 then (if 0 ≤ x5 then (if x5 ≤ (x0.length : Int) then ((embrasureref01_Get.f (x0.drop (x5 : Int).toNat)).bind fun bt219 => (if bt219.2.2 = 0 then (if x217001.length < 17592186044416 then (embrasureref05_FromBytes.l0 k x0 (wrap64 (x5 + bt219.2.1)) (wrap64 (x8 + 1)) x217000 (x217001 ++ [bt219.1])) else (none)) else (some (0, ([] : List Int), ([] : List (S45)), ([] : List Int), 3)))) else (none)) else (none)) else (if x5 ≥ (x0.length : Int) then (embrasureref05_FromBytes.j2 k x0 x5 true x217000 x217001) else (if 0 ≤ x5 then (if x5 < (x0.length : Int) then (embrasureref05_FromBytes.j2 k x0 x5 (decide ((rd x0 x5) > 8)) x217000 x217001) else (none)) else (none))))
def embrasureref05_FromBytes.j2 : Nat → List Int → Int → Bool → Int → List Int → Option (Int × List Int × (List (S45)) × List Int × Int)
  | 0, _, _, _, _, _ => none
  | k + 1, x0, x5, x76, x217000, x217001 => if x76 = true then (some (0, ([] : List Int), ([] : List (S45)), ([] : List Int), 3)) else (if 0 ≤ x5 then (if x5 < (x0.length : Int) then (embrasureref05_FromBytes.l1 k x0 (wrap64 (x5 + 1)) (wrap64 (rd x0 x5)) 0 x217000 x217001 ([] : List (S45))) else (none)) else (none))
def embrasureref05_FromBytes.l1 : Nat → List Int → Int → Int → Int → Int → List Int → List (S45) → Option (Int × List Int × (List (S45)) × List Int × Int)
  | 0, _, _, _, _, _, _, _ => none
  | k + 1, x0, x5, x12, x13, x217000, x217001, x217002 => if x13 < x12 then (if (wrap64 (x5 + 6)) > (x0.length : Int) then (some (0, ([] : List Int), ([] : List (S45)), ([] : List Int), 3)) else (if 0 ≤ x5 then (if x5 ≤ (wrap64 (x5 + 6)) then (if (wrap64 (x5 + 6)) ≤ (x0.length : Int) then ((embrasureref03_FromBytes.f ((x0.take ((wrap64 (x5 + 6)) : Int).toNat).drop (x5 : Int).toNat)).bind fun bt228 => (if x217002.length < 8796093022208 then (embrasureref05_FromBytes.l1 k x0 (wrap64 (x5 + 6)) x12 (wrap64 (x13 + 1)) x217000 x217001 (x217002 ++ [(⟨bt228.1, bt228.2.1⟩ : S45)])) else (none))) else (none)) else (none)) else (none))) else (if 0 ≤ x5 then (if x5 ≤ (x0.length : Int) then ((embrasureref02_Get.f (x0.drop (x5 : Int).toNat)).bind fun bt236 => (if bt236.2.2 = 0 then ((embrasureref05_Bytes.f k x217000 x217001 x217002 bt236.1).bind fun t241 => ((embrasureref01_Same.f t241 x0).bind fun t244 => (if t244 = true then (some (x217000, x217001, x217002, bt236.1, 0)) else (some (0, ([] : List Int), ([] : List (S45)), ([] : List Int), 3))))) else (some (0, ([] : List Int), ([] : List (S45)), ([] : List Int), 3)))) else (none)) else (none))
end
def embrasureref05_FromBytes.f (k : Nat) (l0 : List Int) : Option (Int × List Int × (List (S45)) × List Int × Int) := (embrasureref01_Get.f l0).bind fun bt213 => (if bt213.2.2 = 0 then (if bt213.1 < 1 then (embrasureref05_FromBytes.j0 k l0 bt213.1 bt213.2.1 true) else (embrasureref05_FromBytes.j0 k l0 bt213.1 bt213.2.1 (decide (bt213.1 > 18)))) else (embrasureref05_FromBytes.j0 k l0 bt213.1 bt213.2.1 true))
theorem embrasureref05_FromBytes.mono_l : ∀ k, (∀ y0 y1 y2 y3, LeO (embrasureref05_FromBytes.j0 k y0 y1 y2 y3) (embrasureref05_FromBytes.j0 (k + 1) y0 y1 y2 y3)) ∧ (∀ y0 y1 y2 y3 y4, LeO (embrasureref05_FromBytes.l0 k y0 y1 y2 y3 y4) (embrasureref05_FromBytes.l0 (k + 1) y0 y1 y2 y3 y4)) ∧ (∀ y0 y1 y2 y3 y4, LeO (embrasureref05_FromBytes.j2 k y0 y1 y2 y3 y4) (embrasureref05_FromBytes.j2 (k + 1) y0 y1 y2 y3 y4)) ∧ (∀ y0 y1 y2 y3 y4 y5 y6, LeO (embrasureref05_FromBytes.l1 k y0 y1 y2 y3 y4 y5 y6) (embrasureref05_FromBytes.l1 (k + 1) y0 y1 y2 y3 y4 y5 y6))
  | 0 => ⟨fun _ _ _ _ r h => by simp [embrasureref05_FromBytes.j0] at h, fun _ _ _ _ _ r h => by simp [embrasureref05_FromBytes.l0] at h, fun _ _ _ _ _ r h => by simp [embrasureref05_FromBytes.j2] at h, fun _ _ _ _ _ _ _ r h => by simp [embrasureref05_FromBytes.l1] at h⟩
  | k + 1 => by
    obtain ⟨ih0, ih1, ih2, ih3⟩ := embrasureref05_FromBytes.mono_l k
    refine ⟨?_, ?_, ?_, ?_⟩
    · intro y0 y1 y2 y3
      unfold embrasureref05_FromBytes.j0
      repeat' first
      | (with_reducible exact ih0 _ _ _ _)
      | (with_reducible exact ih1 _ _ _ _ _)
      | (with_reducible exact ih2 _ _ _ _ _)
      | (with_reducible exact ih3 _ _ _ _ _ _ _)
      | (with_reducible exact embrasureref05_Bytes.mono _ _ _ _ _)
      | (with_reducible exact embrasureref05_Nums.mono _ _)
      | (with_reducible exact LeO.refl _)
      | (with_reducible exact LeO.none _)
      | (with_reducible refine LeO.ite ?_ ?_)
      | (with_reducible refine LeO.bind ?_ (fun _ => ?_))
      | exact ih0 _ _ _ _
      | exact ih1 _ _ _ _ _
      | exact ih2 _ _ _ _ _
      | exact ih3 _ _ _ _ _ _ _
      | exact embrasureref05_Bytes.mono _ _ _ _ _
      | exact embrasureref05_Nums.mono _ _
      | exact LeO.none _
      | refine LeO.ite ?_ ?_
      | refine LeO.bind ?_ (fun _ => ?_)
    · intro y0 y1 y2 y3 y4
      unfold embrasureref05_FromBytes.l0
      repeat' first
      | (with_reducible exact ih0 _ _ _ _)
      | (with_reducible exact ih1 _ _ _ _ _)
      | (with_reducible exact ih2 _ _ _ _ _)
      | (with_reducible exact ih3 _ _ _ _ _ _ _)
      | (with_reducible exact embrasureref05_Bytes.mono _ _ _ _ _)
      | (with_reducible exact embrasureref05_Nums.mono _ _)
      | (with_reducible exact LeO.refl _)
      | (with_reducible exact LeO.none _)
      | (with_reducible refine LeO.ite ?_ ?_)
      | (with_reducible refine LeO.bind ?_ (fun _ => ?_))
      | exact ih0 _ _ _ _
      | exact ih1 _ _ _ _ _
      | exact ih2 _ _ _ _ _
      | exact ih3 _ _ _ _ _ _ _
      | exact embrasureref05_Bytes.mono _ _ _ _ _
      | exact embrasureref05_Nums.mono _ _
      | exact LeO.none _
      | refine LeO.ite ?_ ?_
      | refine LeO.bind ?_ (fun _ => ?_)
    · intro y0 y1 y2 y3 y4
      unfold embrasureref05_FromBytes.j2
      repeat' first
      | (with_reducible exact ih0 _ _ _ _)
      | (with_reducible exact ih1 _ _ _ _ _)
      | (with_reducible exact ih2 _ _ _ _ _)
      | (with_reducible exact ih3 _ _ _ _ _ _ _)
      | (with_reducible exact embrasureref05_Bytes.mono _ _ _ _ _)
      | (with_reducible exact embrasureref05_Nums.mono _ _)
      | (with_reducible exact LeO.refl _)
      | (with_reducible exact LeO.none _)
      | (with_reducible refine LeO.ite ?_ ?_)
      | (with_reducible refine LeO.bind ?_ (fun _ => ?_))
      | exact ih0 _ _ _ _
      | exact ih1 _ _ _ _ _
      | exact ih2 _ _ _ _ _
      | exact ih3 _ _ _ _ _ _ _
      | exact embrasureref05_Bytes.mono _ _ _ _ _
      | exact embrasureref05_Nums.mono _ _
      | exact LeO.none _
      | refine LeO.ite ?_ ?_
      | refine LeO.bind ?_ (fun _ => ?_)
    · intro y0 y1 y2 y3 y4 y5 y6
      unfold embrasureref05_FromBytes.l1
      repeat' first
      | (with_reducible exact ih0 _ _ _ _)
      | (with_reducible exact ih1 _ _ _ _ _)
      | (with_reducible exact ih2 _ _ _ _ _)
      | (with_reducible exact ih3 _ _ _ _ _ _ _)
      | (with_reducible exact embrasureref05_Bytes.mono _ _ _ _ _)
      | (with_reducible exact embrasureref05_Nums.mono _ _)
      | (with_reducible exact LeO.refl _)
      | (with_reducible exact LeO.none _)
      | (with_reducible refine LeO.ite ?_ ?_)
      | (with_reducible refine LeO.bind ?_ (fun _ => ?_))
      | exact ih0 _ _ _ _
      | exact ih1 _ _ _ _ _
      | exact ih2 _ _ _ _ _
      | exact ih3 _ _ _ _ _ _ _
      | exact embrasureref05_Bytes.mono _ _ _ _ _
      | exact embrasureref05_Nums.mono _ _
      | exact LeO.none _
      | refine LeO.ite ?_ ?_
      | refine LeO.bind ?_ (fun _ => ?_)
theorem embrasureref05_FromBytes.mono : ∀ a0 k, LeO (embrasureref05_FromBytes.f k a0) (embrasureref05_FromBytes.f (k + 1) a0) := by
  intro a0 k
  obtain ⟨ih0, ih1, ih2, ih3⟩ := embrasureref05_FromBytes.mono_l k
  unfold embrasureref05_FromBytes.f
  repeat' first
      | (with_reducible exact ih0 _ _ _ _)
      | (with_reducible exact ih1 _ _ _ _ _)
      | (with_reducible exact ih2 _ _ _ _ _)
      | (with_reducible exact ih3 _ _ _ _ _ _ _)
      | (with_reducible exact embrasureref05_Bytes.mono _ _ _ _ _)
      | (with_reducible exact embrasureref05_Nums.mono _ _)
      | (with_reducible exact LeO.refl _)
      | (with_reducible exact LeO.none _)
      | (with_reducible refine LeO.ite ?_ ?_)
      | (with_reducible refine LeO.bind ?_ (fun _ => ?_))
      | exact ih0 _ _ _ _
      | exact ih1 _ _ _ _ _
      | exact ih2 _ _ _ _ _
      | exact ih3 _ _ _ _ _ _ _
      | exact embrasureref05_Bytes.mono _ _ _ _ _
      | exact embrasureref05_Nums.mono _ _
      | exact LeO.none _
      | refine LeO.ite ?_ ?_
      | refine LeO.bind ?_ (fun _ => ?_)
set_option maxHeartbeats 8000000 in
set_option maxRecDepth 100000 in
theorem embrasureref05_FromBytes.calls (k : Nat) (A0 : Option Addr) (c0 : Nat) (l0 : List Int) (r1 : Int) (r2 : List Int) (r3 : List (S45)) (r4 : List Int) (r5 : Int) (w : World) (hr0 : Kd.C (Kd.int .u8) w A0 l0.length l0) (hc0 : l0.length ≤ c0) (h : embrasureref05_FromBytes.f k l0 = some (r1, r2, r3, r4, r5)) :
    Calls Try.prog 20 #[.slice A0 l0.length c0] w fun e w' => ∃ v1_ v2_ v3_ : Value, e = .returned (.tuple #[.agg #[.int .i64 r1, v1_, v2_, v3_], .int .i64 r5]) ∧ Kd.R (Kd.int .u64) 39 w' w.heap.size (fun _ => True) v1_ r2 ∧ Kd.R k45 45 w' w.heap.size (fun _ => True) v2_ r3 ∧ Kd.R (Kd.int .u8) 5 w' w.heap.size (fun _ => True) v3_ r4 ∧ Below w.heap.size w w' := by
  have hu26 := Try.underlying26
  have hu45 := Try.underlying45
  have HR0 := Aside0.mk hr0
  have HC0 := Aside0.mk hc0
  clear hr0 hc0
  have HB := Aside0.mk (Below.refl w.heap.size w)
  have H : ((embrasureref01_Get.f l0).bind fun bt213 => (if bt213.2.2 = 0 then (if bt213.1 < 1 then (embrasureref05_FromBytes.j0 k l0 bt213.1 bt213.2.1 true) else (embrasureref05_FromBytes.j0 k l0 bt213.1 bt213.2.1 (decide (bt213.1 > 18)))) else (embrasureref05_FromBytes.j0 k l0 bt213.1 bt213.2.1 true))) = some (r1, r2, r3, r4, r5) := h
  clear h
  replace H := Option.bind_eq_some_iff.mp H
  obtain ⟨⟨t213, t214, t215⟩, A20, H⟩ := H
  replace H : (if t215 = 0 then (if t213 < 1 then (embrasureref05_FromBytes.j0 k l0 t213 t214 true) else (embrasureref05_FromBytes.j0 k l0 t213 t214 (decide (t213 > 18)))) else (embrasureref05_FromBytes.j0 k l0 t213 t214 true)) = some (r1, r2, r3, r4, r5) := H
  have A2 := Aside0.mk A20
  clear A20
  have HC3 := Aside0.mk H
  clear H
  go_enter Try.func20, Try.ntmps20
  go_upto_region 2 with (first | ((with_reducible refine gate_dst (N := 2) rfl ?_); refine box_event ?hg (N := 2) ?hd (cs := #[.int .i64 0, .slice none 0 0, .slice none 0 0, .slice none 0 0]) (t := 26) ?hr ?_; (case hd => rfl); (case hg => rfl); (case hr => first | (go_simp; done) | (go_simp; rfl)); intro gb212 hg w4 hbox hb; have n0_ := Aside0.mk (below_step (by repeat (first | (with_reducible first | exact HB.out | apply below_alloc | apply pw_below_drewN | apply below_drew1) | exact HB.out)) hb); have n1_ := Aside0.mk (hbox); have n2_ := Aside0.mk ((by rw [hg]; exact (below_size (by repeat (first | (with_reducible first | exact HB.out | apply below_alloc | apply pw_below_drewN | apply below_drew1) | exact HB.out))) : w.heap.size ≤ gb212)); have n3_ := Aside0.mk ((by rw [hg]; exact (below_size (by repeat (first | (with_reducible first | exact HB.out | apply below_alloc | apply pw_below_drewN | apply below_drew1) | exact HB.out))) : w.heap.size ≤ gb212)); clear HB; have HB := n0_; have BK212 := n1_; have GW212 := n2_; have GE212 := n3_; clear n0_ n1_ n2_ n3_; clear hb hbox hg) | ((with_reducible refine gate_callee (f := 38) rfl ?_); refine goesL_ (some 21) rfl rfl Try.func38 (by kernel_rfl) rfl #[.slice A0 l0.length c0] rfl (by (try simp only [List.map_toArray, List.map_cons, List.map_nil]); first | done | rfl | (simp only [List.length_drop, List.length_take]; rfl)) ?_; (with_reducible refine (embrasureref01_Get.calls _ _ l0 t213 t214 t215 _ ?side1 ?side2 A2.out).mono ?_); (case side1 => repeat (first | exact (Kd.C_below HR0.out HB.out) | (with_reducible refine Kd.C_alloc ?_ _) | (with_reducible refine Kd.C_drewN ?_ _) | (with_reducible refine Kd.C_drew ?_))); (case side2 => exact HC0.out); rintro e w5 ⟨rfl, hb⟩; refine ⟨_, rfl, ?_⟩; have n0_ := Aside0.mk (blk_below (g := gb212) (o := .cells #[.int .i64 0, .slice none 0 0, .slice none 0 0, .slice none 0 0] 26 (0, 0)) (by (with_reducible repeat (first | refine blk_drewN ?_ _ | refine blk_drew ?_ | refine blk_alloc ?_ _)); exact BK212.out) hb); have n1_ := Aside0.mk (below_step (by repeat (first | (with_reducible first | exact HB.out | apply below_alloc | apply pw_below_drewN | apply below_drew1 | refine below_set ?_ GE212.out) | exact HB.out)) hb); clear BK212; clear HB; have BK212 := n0_; have HB := n1_; clear n0_ n1_; (try clear hb); (try clear hb2); (try clear hk); (try clear hi)))
  (try simp only [Act.put, List.setIfInBounds_toArray, List.set_cons_zero, List.set_cons_succ])
  go_cut [34] (fun v34 wc => ∃ (kq : Nat) (x34_2 : Bool), v34 = .bool x34_2 ∧ Aside0 (embrasureref05_FromBytes.j0 kq l0 t213 t214 x34_2 = some (r1, r2, r3, r4, r5)) ∧ Aside0 (kq ≤ k) ∧ Aside0 (wc.heap[gb212]? = some (.cells #[.int .i64 0, (.slice none 0 0), (.slice none 0 0), (.slice none 0 0)] 26 (0, 0))) ∧ Aside0 (Below w.heap.size w wc))
  case first =>
    have H := HC3.out
    clear HC3
    by_cases c6 : t215 = 0
    · rw [if_pos c6] at H
      have c6b0 : (t215 == 0) = true := beq_iff_eq.mpr c6
      have c6b1 : (t215 != 0) = false := bne_eq_false_iff_eq.mpr c6
      clear c6
      (first | rw [c6b0] | (simp only [i64_w, i32_w]; rw [c6b0]) | skip)
      by_cases c7 : t213 < 1
      · rw [if_pos c7] at H
        have c7b0 : decide (t213 < 1) = true := decide_eq_true c7
        clear c7
        have H' := Aside0.mk H
        clear H
        go_wp2
        go_meet
        case rel => exact ⟨_, (true), (by first | rfl | (simp; done) | (simp [*]; done)), H', ⟨by first | omega | exact Nat.le_refl _⟩, ⟨by (with_reducible repeat (first | refine blk_drewN ?_ _ | refine blk_drew ?_ | refine blk_alloc ?_ _)); exact BK212.out⟩, ⟨by repeat (first | (with_reducible first | exact HB.out | apply below_alloc | apply pw_below_drewN | apply below_drew1 | refine below_set ?_ GE212.out) | exact HB.out)⟩⟩
      · rw [if_neg c7] at H
        have c7b0 : decide (t213 < 1) = false := decide_eq_false c7
        clear c7
        have H' := Aside0.mk H
        clear H
        go_wp2
        go_meet
        case rel => exact ⟨_, (decide (t213 > 18)), (by first | rfl | (simp; done) | (simp [*]; done)), H', ⟨by first | omega | exact Nat.le_refl _⟩, ⟨by (with_reducible repeat (first | refine blk_drewN ?_ _ | refine blk_drew ?_ | refine blk_alloc ?_ _)); exact BK212.out⟩, ⟨by repeat (first | (with_reducible first | exact HB.out | apply below_alloc | apply pw_below_drewN | apply below_drew1 | refine below_set ?_ GE212.out) | exact HB.out)⟩⟩
    · rw [if_neg c6] at H
      have c6b0 : (t215 == 0) = false := beq_eq_false_iff_ne.mpr c6
      have c6b1 : (t215 != 0) = true := bne_iff_ne.mpr c6
      (first | rw [c6b0] | (simp only [i64_w, i32_w]; rw [c6b0]) | skip)
      have H' := Aside0.mk H
      clear H
      go_wp2
      go_meet
      case rel => exact ⟨_, (true), (by first | rfl | (simp; done) | (simp [*]; done)), H', ⟨by first | omega | exact Nat.le_refl _⟩, ⟨by (with_reducible repeat (first | refine blk_drewN ?_ _ | refine blk_drew ?_ | refine blk_alloc ?_ _)); exact BK212.out⟩, ⟨by repeat (first | (with_reducible first | exact HB.out | apply below_alloc | apply pw_below_drewN | apply below_drew1 | refine below_set ?_ GE212.out) | exact HB.out)⟩⟩
  case rest =>
    clear HC3
    try clear c2
    try clear p2
    try clear c3
    try clear c6
    try clear c6b0
    try clear c6b1
    try clear c7
    try clear c7b0
    obtain ⟨kq, x34_2, rfl, HA, HJ2, BK212, HB⟩ := hcut
    cases kq with
    | zero => exact absurd HA.out (by simp [embrasureref05_FromBytes.j0])
    | succ kj2 =>
      have H := HA.out
      clear HA
      simp only [embrasureref05_FromBytes.j0] at H
      by_cases c8 : x34_2 = true
      · subst c8
        have H1 : (some (0, ([] : List Int), ([] : List (S45)), ([] : List Int), 3)) = some (r1, r2, r3, r4, r5) := by rw [if_pos rfl] at H; exact H
        clear H
        have H := H1
        clear H1
        simp only [Option.some.injEq, Prod.mk.injEq] at H
        obtain ⟨rfl, rfl, rfl, rfl, rfl⟩ := H
        have hcz9_0 : wc.cell? ⟨gb212, 0, none⟩ = some (.int .i64 0) := (blk_cell BK212.out 0).trans rfl
        have hcz9_1 : wc.cell? ⟨gb212, 1, none⟩ = some (.slice none 0 0) := (blk_cell BK212.out 1).trans rfl
        have hcz9_2 : wc.cell? ⟨gb212, 2, none⟩ = some (.slice none 0 0) := (blk_cell BK212.out 2).trans rfl
        have hcz9_3 : wc.cell? ⟨gb212, 3, none⟩ = some (.slice none 0 0) := (blk_cell BK212.out 3).trans rfl
        have hfz9_0 := blk_frozen BK212.out 0
        have hfz9_1 := blk_frozen BK212.out 1
        have hfz9_2 := blk_frozen BK212.out 2
        have hfz9_3 := blk_frozen BK212.out 3
        go_wp2
        refine bodyPost_ret (results_ct rfl _ _ gb212 26 #[.int .i64 0, .slice none 0 0, .slice none 0 0, .slice none 0 0] (0, 0) _ rfl (by (with_reducible repeat (first | refine blk_drewN ?_ _ | refine blk_drew ?_ | refine blk_alloc ?_ _)); refine blk_put (cs := #[.int .i64 0, .slice none 0 0, .slice none 0 0, .slice none 0 0]) ?_ 3 _ rfl; (with_reducible repeat (first | refine blk_drewN ?_ _ | refine blk_drew ?_ | refine blk_alloc ?_ _)); refine blk_put (cs := #[.int .i64 0, .slice none 0 0, .slice none 0 0, .slice none 0 0]) ?_ 2 _ rfl; (with_reducible repeat (first | refine blk_drewN ?_ _ | refine blk_drew ?_ | refine blk_alloc ?_ _)); refine blk_put (cs := #[.int .i64 0, .slice none 0 0, .slice none 0 0, .slice none 0 0]) ?_ 1 _ rfl; (with_reducible repeat (first | refine blk_drewN ?_ _ | refine blk_drew ?_ | refine blk_alloc ?_ _)); refine blk_put (cs := #[.int .i64 0, .slice none 0 0, .slice none 0 0, .slice none 0 0]) ?_ 0 _ rfl; (with_reducible repeat (first | refine blk_drewN ?_ _ | refine blk_drew ?_ | refine blk_alloc ?_ _)); exact BK212.out) Try.underlying26 rfl (by kernel_rfl)) rfl ?_
        exact ⟨_, _, _, by first | rfl | (simp [errW_none, errW_some] <;> rfl) | (simp [*, errW_none, errW_some] <;> rfl), by first | exact Kd.R_nil _ _ _ _ _ | exact Kd.N_nil _ _ _ _ _ | exact Kd.V_nil _ _ _ _ _ | exact Kd.Q_nil _ _ _ _ _ | exact Kd.S_nil _ _ _ _ _, by first | exact Kd.R_nil _ _ _ _ _ | exact Kd.N_nil _ _ _ _ _ | exact Kd.V_nil _ _ _ _ _ | exact Kd.Q_nil _ _ _ _ _ | exact Kd.S_nil _ _ _ _ _, by first | exact Kd.R_nil _ _ _ _ _ | exact Kd.N_nil _ _ _ _ _ | exact Kd.V_nil _ _ _ _ _ | exact Kd.Q_nil _ _ _ _ _ | exact Kd.S_nil _ _ _ _ _, by repeat (first | (with_reducible first | exact HB.out | apply below_alloc | apply pw_below_drewN | apply below_drew1 | refine below_set ?_ GE212.out) | exact HB.out)⟩
      · replace c8 := Bool.eq_false_iff.mpr c8
        subst c8
        have H1 : (embrasureref05_FromBytes.l0 kj2 l0 t214 0 (wrap64 (t213)) ([] : List Int)) = some (r1, r2, r3, r4, r5) := by rw [if_neg (show ¬ (false = true) by decide)] at H; exact H
        clear H
        have H := H1
        clear H1
        have H' := Aside0.mk H
        clear H
        go_wp2_with (first | ((with_reducible refine gate_dst (N := 7) rfl ?_); refine box_event ?hg (N := 7) ?hd (cs := #[.int .i64 0, .slice none 0 0, .slice none 0 0, .slice none 0 0]) (t := 26) ?hr ?_; (case hd => rfl); (case hg => rfl); (case hr => first | (go_simp; done) | (go_simp; rfl)); intro gb216 hg w10 hbox hb; have n0_ := Aside0.mk (blk_below (g := gb212) (o := .cells #[.int .i64 0, .slice none 0 0, .slice none 0 0, .slice none 0 0] 26 (0, 0)) (by (with_reducible repeat (first | refine blk_drewN ?_ _ | refine blk_drew ?_ | refine blk_alloc ?_ _)); exact BK212.out) hb); have n1_ := Aside0.mk (below_step (by repeat (first | (with_reducible first | exact HB.out | apply below_alloc | apply pw_below_drewN | apply below_drew1 | refine below_set ?_ GE212.out) | exact HB.out)) hb); have n2_ := Aside0.mk (hbox); have n3_ := Aside0.mk ((by rw [hg]; exact (below_size (by repeat (first | (with_reducible first | exact HB.out | apply below_alloc | apply pw_below_drewN | apply below_drew1 | refine below_set ?_ GE212.out) | exact HB.out))) : w.heap.size ≤ gb216)); have n4_ := Aside0.mk ((by rw [hg]; exact (below_size (by repeat (first | (with_reducible first | exact HB.out | apply below_alloc | apply pw_below_drewN | apply below_drew1 | refine below_set ?_ GE212.out) | exact HB.out))) : w.heap.size ≤ gb216)); have n5_ := Aside0.mk ((by rw [hg]; exact Nat.ne_of_lt (blk_lt (g := gb212) (o := .cells #[.int .i64 0, .slice none 0 0, .slice none 0 0, .slice none 0 0] 26 (0, 0)) (by (with_reducible repeat (first | refine blk_drewN ?_ _ | refine blk_drew ?_ | refine blk_alloc ?_ _)); exact BK212.out)) : gb212 ≠ gb216)); have n6_ := Aside0.mk ((by rw [hg]; exact Nat.ne_of_gt (blk_lt (g := gb212) (o := .cells #[.int .i64 0, .slice none 0 0, .slice none 0 0, .slice none 0 0] 26 (0, 0)) (by (with_reducible repeat (first | refine blk_drewN ?_ _ | refine blk_drew ?_ | refine blk_alloc ?_ _)); exact BK212.out)) : gb216 ≠ gb212)); clear BK212; clear HB; have BK212 := n0_; have HB := n1_; have BK216 := n2_; have GW216 := n3_; have GE216 := n4_; have NB212_216 := n5_; have NB216_212 := n6_; clear n0_ n1_ n2_ n3_ n4_ n5_ n6_; clear hb hbox hg; have hnb11 := NB216_212.out; have hnc11 := NB212_216.out; have hcz12_0 : w10.cell? ⟨gb216, 0, none⟩ = some (.int .i64 0) := (blk_cell BK216.out 0).trans rfl; have hcz12_1 : w10.cell? ⟨gb216, 1, none⟩ = some (.slice none 0 0) := (blk_cell BK216.out 1).trans rfl; have hcz12_2 : w10.cell? ⟨gb216, 2, none⟩ = some (.slice none 0 0) := (blk_cell BK216.out 2).trans rfl; have hcz12_3 : w10.cell? ⟨gb216, 3, none⟩ = some (.slice none 0 0) := (blk_cell BK216.out 3).trans rfl; have hfz12_0 := blk_frozen BK216.out 0; have hfz12_1 := blk_frozen BK216.out 1; have hfz12_2 := blk_frozen BK216.out 2; have hfz12_3 := blk_frozen BK216.out 3))
        go_loopg [5, 8] kj2 (fun kq v5 v8 w' => ∃ (x5_2 : Int) (x8_2 : Int) (x213000_2 : Int) (x217001_2 : List Int) (u217001 : Value), v5 = .int .i64 x5_2 ∧ v8 = .int .i64 x8_2 ∧ Aside0 (embrasureref05_FromBytes.l0 kq l0 x5_2 x8_2 (wrap64 (t213)) x217001_2 = some (r1, r2, r3, r4, r5)) ∧ Aside0 (kq ≤ kj2) ∧ Aside0 (Kd.R (Kd.int .u64) 39 w' w.heap.size (fun _ => True) u217001 x217001_2) ∧ Aside0 (w'.heap[gb212]? = some (.cells #[.int .i64 x213000_2, (.slice none 0 0), (.slice none 0 0), (.slice none 0 0)] 26 (0, 0))) ∧ Aside0 (w'.heap[gb216]? = some (.cells #[.int .i64 (wrap64 (t213)), u217001, (.slice none 0 0), (.slice none 0 0)] 26 (0, 0))) ∧ Aside0 (Below w.heap.size w w'))
        case atStart => exact ⟨(t214), (0), (0), (([] : List Int)), (.slice none 0 0), (by first | rfl | (simp; done) | (simp [*]; done)), (by first | rfl | (simp; done) | (simp [*]; done)), H', ⟨Nat.le_refl _⟩, ⟨by first | exact Kd.R_nil _ _ _ _ _ | exact Kd.N_nil _ _ _ _ _ | exact Kd.V_nil _ _ _ _ _ | exact Kd.Q_nil _ _ _ _ _ | exact Kd.S_nil _ _ _ _ _⟩, ⟨by (with_reducible repeat (first | refine blk_drewN ?_ _ | refine blk_drew ?_ | refine blk_alloc ?_ _)); refine blk_far ?_ NB212_216.out _; (with_reducible repeat (first | refine blk_drewN ?_ _ | refine blk_drew ?_ | refine blk_alloc ?_ _)); refine blk_far ?_ NB212_216.out _; (with_reducible repeat (first | refine blk_drewN ?_ _ | refine blk_drew ?_ | refine blk_alloc ?_ _)); refine blk_far ?_ NB212_216.out _; (with_reducible repeat (first | refine blk_drewN ?_ _ | refine blk_drew ?_ | refine blk_alloc ?_ _)); refine blk_far ?_ NB212_216.out _; (with_reducible repeat (first | refine blk_drewN ?_ _ | refine blk_drew ?_ | refine blk_alloc ?_ _)); exact BK212.out⟩, ⟨by (with_reducible repeat (first | refine blk_drewN ?_ _ | refine blk_drew ?_ | refine blk_alloc ?_ _)); refine blk_put (cs := #[.int .i64 (wrap64 (t213)), .slice none 0 0, .slice none 0 0, .slice none 0 0]) ?_ 3 _ rfl; (with_reducible repeat (first | refine blk_drewN ?_ _ | refine blk_drew ?_ | refine blk_alloc ?_ _)); refine blk_put (cs := #[.int .i64 (wrap64 (t213)), .slice none 0 0, .slice none 0 0, .slice none 0 0]) ?_ 2 _ rfl; (with_reducible repeat (first | refine blk_drewN ?_ _ | refine blk_drew ?_ | refine blk_alloc ?_ _)); refine blk_put (cs := #[.int .i64 (wrap64 (t213)), .slice none 0 0, .slice none 0 0, .slice none 0 0]) ?_ 1 _ rfl; (with_reducible repeat (first | refine blk_drewN ?_ _ | refine blk_drew ?_ | refine blk_alloc ?_ _)); refine blk_put (cs := #[.int .i64 0, .slice none 0 0, .slice none 0 0, .slice none 0 0]) ?_ 0 _ rfl; (with_reducible repeat (first | refine blk_drewN ?_ _ | refine blk_drew ?_ | refine blk_alloc ?_ _)); exact BK216.out⟩, ⟨by repeat (first | (with_reducible first | exact HB.out | apply below_alloc | apply pw_below_drewN | apply below_drew1 | refine below_set ?_ GE212.out | refine below_set ?_ GE216.out) | exact HB.out)⟩⟩
        case round =>
          clear H'
          try clear c1
          try clear c2
          try clear p2
          try clear c3
          try clear c6
          try clear c6b0
          try clear c6b1
          try clear p6
          try clear c7
          try clear c7b0
          try clear c8
          try clear c11
          try clear hcz12_0
          try clear hcz12_1
          try clear hcz12_2
          try clear hcz12_3
          try clear hcz9_0
          try clear hcz9_1
          try clear hcz9_2
          try clear hcz9_3
          try clear hfz12_0
          try clear hfz12_1
          try clear hfz12_2
          try clear hfz12_3
          try clear hfz9_0
          try clear hfz9_1
          try clear hfz9_2
          try clear hfz9_3
          try clear p2
          obtain ⟨x5_2, x8_2, x213000_2, x217001_2, u217001, rfl, rfl, HA, HK2, HO_217001, BK212, BK216, HB⟩ := hrel
          cases gk with
          | zero => exact absurd HA.out (by simp [embrasureref05_FromBytes.l0])
          | succ k2 =>
            have H := HA.out
            clear HA
            simp only [embrasureref05_FromBytes.l0] at H
            replace H := Option.bind_eq_some_iff.mp H
            obtain ⟨t217, A130, H⟩ := H
            replace H : (if x8_2 < t217 then (if 0 ≤ x5_2 then (if x5_2 ≤ (l0.length : Int) then ((embrasureref01_Get.f (l0.drop (x5_2 : Int).toNat)).bind fun bt219 => (if bt219.2.2 = 0 then (if x217001_2.length < 17592186044416 then (embrasureref05_FromBytes.l0 k2 l0 (wrap64 (x5_2 + bt219.2.1)) (wrap64 (x8_2 + 1)) (wrap64 (t213)) (x217001_2 ++ [bt219.1])) else (none)) else (some (0, ([] : List Int), ([] : List (S45)), ([] : List Int), 3)))) else (none)) else (none)) else (if x5_2 ≥ (l0.length : Int) then (embrasureref05_FromBytes.j2 k2 l0 x5_2 true (wrap64 (t213)) x217001_2) else (if 0 ≤ x5_2 then (if x5_2 < (l0.length : Int) then (embrasureref05_FromBytes.j2 k2 l0 x5_2 (decide ((rd l0 x5_2) > 8)) (wrap64 (t213)) x217001_2) else (none)) else (none)))) = some (r1, r2, r3, r4, r5) := H
            have A13 := Aside0.mk A130
            clear A130
            by_cases c14 : x8_2 < t217
            · rw [if_pos c14] at H
              have c14b0 : decide (x8_2 < t217) = true := decide_eq_true c14
              clear c14
              by_cases c15 : 0 ≤ x5_2
              · rw [if_pos c15] at H
                have c15b0 := eq_true c15
                have c15b1 : decide (0 ≤ x5_2) = true := decide_eq_true c15
                clear c15
                by_cases c16 : x5_2 ≤ (l0.length : Int)
                · rw [if_pos c16] at H
                  have c16b0 := eq_true c16
                  have c16b1 : decide (x5_2 ≤ (l0.length : Int)) = true := decide_eq_true c16
                  clear c16
                  replace H := Option.bind_eq_some_iff.mp H
                  obtain ⟨⟨t219, t220, t221⟩, A170, H⟩ := H
                  replace H : (if t221 = 0 then (if x217001_2.length < 17592186044416 then (embrasureref05_FromBytes.l0 k2 l0 (wrap64 (x5_2 + t220)) (wrap64 (x8_2 + 1)) (wrap64 (t213)) (x217001_2 ++ [t219])) else (none)) else (some (0, ([] : List Int), ([] : List (S45)), ([] : List Int), 3))) = some (r1, r2, r3, r4, r5) := H
                  have A17 := Aside0.mk A170
                  clear A170
                  by_cases c18 : t221 = 0
                  · rw [if_pos c18] at H
                    have c18b0 : (t221 == 0) = true := beq_iff_eq.mpr c18
                    have c18b1 : (t221 != 0) = false := bne_eq_false_iff_eq.mpr c18
                    clear c18
                    by_cases c19 : x217001_2.length < 17592186044416
                    · rw [if_pos c19] at H
                      have LMc19 := Aside0.mk c19
                      clear c19
                      obtain ⟨y222, hy222⟩ : ∃ y_ : List Int, y_ = (x217001_2 ++ [t219]) := ⟨_, rfl⟩
                      replace H : (embrasureref05_FromBytes.l0 k2 l0 (wrap64 (x5_2 + t220)) (wrap64 (x8_2 + 1)) (wrap64 (t213)) y222) = some (r1, r2, r3, r4, r5) := by first | (rw [hy222]; with_reducible exact H) | (have H2_ := (Option.bind_some _ _).symm.trans H; rw [hy222]; with_reducible exact H2_) | (have H2_ := (Option.bind_some _ _).symm.trans H; with_reducible exact H2_) | with_reducible exact H | (rw [hy222]; exact H) | exact H
                      have Ny222 := Aside0.mk hy222
                      clear hy222
                      have H' := Aside0.mk H
                      clear H
                      have hnb20 := NB216_212.out
                      have hnc20 := NB212_216.out
                      have hcz21_0 : wr.cell? ⟨gb216, 0, none⟩ = some (.int .i64 (wrap64 (t213))) := (blk_cell BK216.out 0).trans rfl
                      have hcz21_1 : wr.cell? ⟨gb216, 1, none⟩ = some (u217001) := (blk_cell BK216.out 1).trans rfl
                      have hcz21_2 : wr.cell? ⟨gb216, 2, none⟩ = some (.slice none 0 0) := (blk_cell BK216.out 2).trans rfl
                      have hcz21_3 : wr.cell? ⟨gb216, 3, none⟩ = some (.slice none 0 0) := (blk_cell BK216.out 3).trans rfl
                      have hfz21_0 := blk_frozen BK216.out 0
                      have hfz21_1 := blk_frozen BK216.out 1
                      have hfz21_2 := blk_frozen BK216.out 2
                      have hfz21_3 := blk_frozen BK216.out 3
                      go_wp2_with (first | ((with_reducible refine gate_callee (f := 17) rfl ?_); refine goesL_ (some 42) rfl rfl Try.func17 (by kernel_rfl) rfl #[.int .i64 (wrap64 (t213))] rfl (by (try simp only [List.map_toArray, List.map_cons, List.map_nil]); first | done | rfl | (simp only [List.length_drop, List.length_take]; rfl)) ?_; (with_reducible refine (embrasureref05_Nums.calls k2 (wrap64 (t213)) t217 _ A13.out).mono ?_); rintro e w' ⟨rfl, ⟨nd, rfl⟩⟩; refine ⟨_, rfl, ?_⟩; (try (rw [drewN_self wr]; generalize hq_ : World.drewN wr _ = wr; have n0_ : Aside0 (Kd.R (Kd.int .u64) 39 wr w.heap.size (fun _ => True) u217001 x217001_2) := ⟨by rw [← hq_]; exact (by (with_reducible repeat (first | apply Kd.R_alloc | apply Kd.R_drewN | apply Kd.R_drew)); exact HO_217001.out)⟩; have n1_ : Aside0 (wr.heap[gb212]? = some (.cells #[.int .i64 x213000_2, .slice none 0 0, .slice none 0 0, .slice none 0 0] 26 (0, 0))) := ⟨by rw [← hq_]; exact (by (with_reducible repeat (first | refine blk_drewN ?_ _ | refine blk_drew ?_ | refine blk_alloc ?_ _)); exact BK212.out)⟩; have n2_ : Aside0 (wr.heap[gb216]? = some (.cells #[.int .i64 (wrap64 (t213)), u217001, .slice none 0 0, .slice none 0 0] 26 (0, 0))) := ⟨by rw [← hq_]; exact (by (with_reducible repeat (first | refine blk_drewN ?_ _ | refine blk_drew ?_ | refine blk_alloc ?_ _)); exact BK216.out)⟩; have n3_ : Aside0 (Below w.heap.size w wr) := ⟨by rw [← hq_]; exact (by repeat (first | (with_reducible first | exact HB.out | apply below_alloc | apply pw_below_drewN | apply below_drew1 | refine below_set ?_ GE212.out | refine below_set ?_ GE216.out) | exact HB.out))⟩; clear HO_217001 BK212 BK216 HB hq_; have HO_217001 := n0_; have BK212 := n1_; have BK216 := n2_; have HB := n3_; clear n0_ n1_ n2_ n3_)); obtain ⟨i022, hi022, _, hsz22, _⟩ := info_parts info5; obtain ⟨A22, hcut22, hA22, hC22⟩ := print_drop_of (P := Try.prog) (Value.int .u8) 0 24 5 .i64 Try.underlying24 hi022 hsz22 A0 c0 l0 x5_2 (of_decide_eq_true (by first | (with_reducible assumption) | assumption)) (of_decide_eq_true (by first | (with_reducible assumption) | assumption)) HC0.out; have HR218 := Aside0.mk (Kd.C_of_reads (h1 := fun _ => rfl) (hA22 _ (Kd.reads_of_C HR0.out))); have HC218 := Aside0.mk hC22; clear hA22 hC22 hi022 hsz22) | ((with_reducible refine gate_callee (f := 38) rfl ?_); refine goesL_ (some 50) rfl rfl Try.func38 (by kernel_rfl) rfl #[.slice A22 (l0.drop (x5_2 : Int).toNat).length (c0 - x5_2.toNat)] rfl (by (try simp only [List.map_toArray, List.map_cons, List.map_nil]); first | done | (rw [show (l0.drop (x5_2 : Int).toNat).length = (l0.length - x5_2.toNat) from List.length_drop] <;> rfl) | rfl | (simp only [List.length_drop, List.length_take]; rfl)) ?_; (with_reducible refine (embrasureref01_Get.calls _ _ (l0.drop (x5_2 : Int).toNat) t219 t220 t221 _ ?side1 ?side2 A17.out).mono ?_); (case side1 => repeat (first | exact (Kd.C_below HR218.out HB.out) | (with_reducible refine Kd.C_alloc ?_ _) | (with_reducible refine Kd.C_drewN ?_ _) | (with_reducible refine Kd.C_drew ?_))); (case side2 => exact HC218.out); rintro e w23 ⟨rfl, hb⟩; refine ⟨_, rfl, ?_⟩; have n0_ := Aside0.mk (Kd.R_below (by (with_reducible repeat (first | apply Kd.R_alloc | apply Kd.R_drewN | apply Kd.R_drew)); exact HO_217001.out) hb); have n1_ := Aside0.mk (blk_below (g := gb212) (o := .cells #[.int .i64 x213000_2, .slice none 0 0, .slice none 0 0, .slice none 0 0] 26 (0, 0)) (by (with_reducible repeat (first | refine blk_drewN ?_ _ | refine blk_drew ?_ | refine blk_alloc ?_ _)); exact BK212.out) hb); have n2_ := Aside0.mk (blk_below (g := gb216) (o := .cells #[.int .i64 (wrap64 (t213)), u217001, .slice none 0 0, .slice none 0 0] 26 (0, 0)) (by (with_reducible repeat (first | refine blk_drewN ?_ _ | refine blk_drew ?_ | refine blk_alloc ?_ _)); exact BK216.out) hb); have n3_ := Aside0.mk (below_step (by repeat (first | (with_reducible first | exact HB.out | apply below_alloc | apply pw_below_drewN | apply below_drew1 | refine below_set ?_ GE212.out | refine below_set ?_ GE216.out) | exact HB.out)) hb); clear HO_217001; clear BK212; clear BK216; clear HB; have HO_217001 := n0_; have BK212 := n1_; have BK216 := n2_; have HB := n3_; clear n0_ n1_ n2_ n3_; (try clear hb); (try clear hb2); (try clear hk); (try clear hi); have hcz24_0 : w23.cell? ⟨gb216, 0, none⟩ = some (.int .i64 (wrap64 (t213))) := (blk_cell BK216.out 0).trans rfl; have hcz24_1 : w23.cell? ⟨gb216, 1, none⟩ = some (u217001) := (blk_cell BK216.out 1).trans rfl; have hcz24_2 : w23.cell? ⟨gb216, 2, none⟩ = some (.slice none 0 0) := (blk_cell BK216.out 2).trans rfl; have hcz24_3 : w23.cell? ⟨gb216, 3, none⟩ = some (.slice none 0 0) := (blk_cell BK216.out 3).trans rfl; have hfz24_0 := blk_frozen BK216.out 0; have hfz24_1 := blk_frozen BK216.out 1; have hfz24_2 := blk_frozen BK216.out 2; have hfz24_3 := blk_frozen BK216.out 3) | ((with_reducible refine gate_builtin (b := .append) (xs := #[.tmp 58, .tmp 60]) rfl ?_); at_builtin; refine Kd.R_append (Kd.int .u64) (w0 := w) w.heap.size rfl (.tmp 58) (.tmp 60) 22 39 (.int .u64 0) 8 rfl Try.underlying22 info39 rfl (by decide) (by omega) u217001 x217001_2 t219 [.int .u64 t219] (fun _ => True) (fun _ => False) rfl rfl ?aP (fun _ hk => hk.elim) ?aF ?aO ?aB ?aS ?aL ?_; (case aP => exact rfl); (case aB => exact (by repeat (first | (with_reducible first | exact HB.out | apply below_alloc | apply pw_below_drewN | apply below_drew1 | refine below_set ?_ GE212.out | refine below_set ?_ GE216.out) | exact HB.out))); (case aF => exact (fun _ _ => trivial)); (case aO => exact (by (with_reducible repeat (first | apply Kd.R_alloc | apply Kd.R_drewN | apply Kd.R_drew)); exact HO_217001.out)); (case aS => exact (below_size (by repeat (first | (with_reducible first | exact HB.out | apply below_alloc | apply pw_below_drewN | apply below_drew1 | refine below_set ?_ GE212.out | refine below_set ?_ GE216.out) | exact HB.out)))); (case aL => have := LMc19.out; omega); intro v223 w25 ho hb hg hat; rw [← Ny222.out] at ho; have n0_ := Aside0.mk (blk_grown (g := gb212) (o := .cells #[.int .i64 x213000_2, .slice none 0 0, .slice none 0 0, .slice none 0 0] 26 (0, 0)) (by (with_reducible repeat (first | refine blk_drewN ?_ _ | refine blk_drew ?_ | refine blk_alloc ?_ _)); exact BK212.out) hg (Kd.R_ne HO_217001.out BK212.out (by decide))); have n1_ := Aside0.mk (blk_grown (g := gb216) (o := .cells #[.int .i64 (wrap64 (t213)), u217001, .slice none 0 0, .slice none 0 0] 26 (0, 0)) (by (with_reducible repeat (first | refine blk_drewN ?_ _ | refine blk_drew ?_ | refine blk_alloc ?_ _)); exact BK216.out) hg (Kd.R_ne HO_217001.out BK216.out (by decide))); have n2_ := Aside0.mk (hb); have n3_ := Aside0.mk (ho); clear BK212; clear BK216; clear HB; clear HO_217001; have BK212 := n0_; have BK216 := n1_; have HB := n2_; have HO224 := n3_; clear n0_ n1_ n2_ n3_; clear ho hb hg hat; obtain ⟨Ao26, co26, eo26⟩ := Kd.R_slice HO224.out; subst eo26; have hcz27_0 : w25.cell? ⟨gb216, 0, none⟩ = some (.int .i64 (wrap64 (t213))) := (blk_cell BK216.out 0).trans rfl; have hcz27_1 : w25.cell? ⟨gb216, 1, none⟩ = some (u217001) := (blk_cell BK216.out 1).trans rfl; have hcz27_2 : w25.cell? ⟨gb216, 2, none⟩ = some (.slice none 0 0) := (blk_cell BK216.out 2).trans rfl; have hcz27_3 : w25.cell? ⟨gb216, 3, none⟩ = some (.slice none 0 0) := (blk_cell BK216.out 3).trans rfl; have hfz27_0 := blk_frozen BK216.out 0; have hfz27_1 := blk_frozen BK216.out 1; have hfz27_2 := blk_frozen BK216.out 2; have hfz27_3 := blk_frozen BK216.out 3))
                      go_roundg k2
                      case measure => have := HJ2.out; have := HK2.out; omega
                      case rel => exact ⟨(wrap64 (x5_2 + t220)), (wrap64 (x8_2 + 1)), (x213000_2), (y222), (.slice Ao26 y222.length co26), (by first | rfl | (simp; done) | (simp [*]; done)), (by first | rfl | (simp; done) | (simp [*]; done)), H', ⟨by have := HJ2.out; have := HK2.out; omega⟩, ⟨by (with_reducible repeat (first | apply Kd.R_alloc | apply Kd.R_drewN | apply Kd.R_drew)); exact Kd.R_mono (Kd.R_far (p := ⟨gb216, 1, none⟩) (Kd.R_types HO224.out BK216.out (by decide)) (fun _ hk => hk.2) (.slice Ao26 y222.length co26)) (fun _ hk => trivial)⟩, ⟨by (with_reducible repeat (first | refine blk_drewN ?_ _ | refine blk_drew ?_ | refine blk_alloc ?_ _)); refine blk_far ?_ NB212_216.out _; (with_reducible repeat (first | refine blk_drewN ?_ _ | refine blk_drew ?_ | refine blk_alloc ?_ _)); exact BK212.out⟩, ⟨by (with_reducible repeat (first | refine blk_drewN ?_ _ | refine blk_drew ?_ | refine blk_alloc ?_ _)); refine blk_put (cs := #[.int .i64 (wrap64 (t213)), u217001, .slice none 0 0, .slice none 0 0]) ?_ 1 _ rfl; (with_reducible repeat (first | refine blk_drewN ?_ _ | refine blk_drew ?_ | refine blk_alloc ?_ _)); exact BK216.out⟩, ⟨by repeat (first | (with_reducible first | exact HB.out | apply below_alloc | apply pw_below_drewN | apply below_drew1 | refine below_set ?_ GE212.out | refine below_set ?_ GE216.out) | exact HB.out)⟩⟩
                    · rw [if_neg c19] at H
                      exact absurd H (by simp)
                  · rw [if_neg c18] at H
                    have c18b0 : (t221 == 0) = false := beq_eq_false_iff_ne.mpr c18
                    have c18b1 : (t221 != 0) = true := bne_iff_ne.mpr c18
                    simp only [Option.some.injEq, Prod.mk.injEq] at H
                    obtain ⟨rfl, rfl, rfl, rfl, rfl⟩ := H
                    have hnb28 := NB216_212.out
                    have hnc28 := NB212_216.out
                    have hcz29_0 : wr.cell? ⟨gb216, 0, none⟩ = some (.int .i64 (wrap64 (t213))) := (blk_cell BK216.out 0).trans rfl
                    have hcz29_1 : wr.cell? ⟨gb216, 1, none⟩ = some (u217001) := (blk_cell BK216.out 1).trans rfl
                    have hcz29_2 : wr.cell? ⟨gb216, 2, none⟩ = some (.slice none 0 0) := (blk_cell BK216.out 2).trans rfl
                    have hcz29_3 : wr.cell? ⟨gb216, 3, none⟩ = some (.slice none 0 0) := (blk_cell BK216.out 3).trans rfl
                    have hfz29_0 := blk_frozen BK216.out 0
                    have hfz29_1 := blk_frozen BK216.out 1
                    have hfz29_2 := blk_frozen BK216.out 2
                    have hfz29_3 := blk_frozen BK216.out 3
                    go_wp2_with (first | ((with_reducible refine gate_callee (f := 17) rfl ?_); refine goesL_ (some 42) rfl rfl Try.func17 (by kernel_rfl) rfl #[.int .i64 (wrap64 (t213))] rfl (by (try simp only [List.map_toArray, List.map_cons, List.map_nil]); first | done | rfl | (simp only [List.length_drop, List.length_take]; rfl)) ?_; (with_reducible refine (embrasureref05_Nums.calls k2 (wrap64 (t213)) t217 _ A13.out).mono ?_); rintro e w' ⟨rfl, ⟨nd, rfl⟩⟩; refine ⟨_, rfl, ?_⟩; (try (rw [drewN_self wr]; generalize hq_ : World.drewN wr _ = wr; have n0_ : Aside0 (Kd.R (Kd.int .u64) 39 wr w.heap.size (fun _ => True) u217001 x217001_2) := ⟨by rw [← hq_]; exact (by (with_reducible repeat (first | apply Kd.R_alloc | apply Kd.R_drewN | apply Kd.R_drew)); exact HO_217001.out)⟩; have n1_ : Aside0 (wr.heap[gb212]? = some (.cells #[.int .i64 x213000_2, .slice none 0 0, .slice none 0 0, .slice none 0 0] 26 (0, 0))) := ⟨by rw [← hq_]; exact (by (with_reducible repeat (first | refine blk_drewN ?_ _ | refine blk_drew ?_ | refine blk_alloc ?_ _)); exact BK212.out)⟩; have n2_ : Aside0 (wr.heap[gb216]? = some (.cells #[.int .i64 (wrap64 (t213)), u217001, .slice none 0 0, .slice none 0 0] 26 (0, 0))) := ⟨by rw [← hq_]; exact (by (with_reducible repeat (first | refine blk_drewN ?_ _ | refine blk_drew ?_ | refine blk_alloc ?_ _)); exact BK216.out)⟩; have n3_ : Aside0 (Below w.heap.size w wr) := ⟨by rw [← hq_]; exact (by repeat (first | (with_reducible first | exact HB.out | apply below_alloc | apply pw_below_drewN | apply below_drew1 | refine below_set ?_ GE212.out | refine below_set ?_ GE216.out) | exact HB.out))⟩; clear HO_217001 BK212 BK216 HB hq_; have HO_217001 := n0_; have BK212 := n1_; have BK216 := n2_; have HB := n3_; clear n0_ n1_ n2_ n3_)); obtain ⟨i030, hi030, _, hsz30, _⟩ := info_parts info5; obtain ⟨A30, hcut30, hA30, hC30⟩ := print_drop_of (P := Try.prog) (Value.int .u8) 0 24 5 .i64 Try.underlying24 hi030 hsz30 A0 c0 l0 x5_2 (of_decide_eq_true (by first | (with_reducible assumption) | assumption)) (of_decide_eq_true (by first | (with_reducible assumption) | assumption)) HC0.out; have HR218 := Aside0.mk (Kd.C_of_reads (h1 := fun _ => rfl) (hA30 _ (Kd.reads_of_C HR0.out))); have HC218 := Aside0.mk hC30; clear hA30 hC30 hi030 hsz30) | ((with_reducible refine gate_callee (f := 38) rfl ?_); refine goesL_ (some 50) rfl rfl Try.func38 (by kernel_rfl) rfl #[.slice A30 (l0.drop (x5_2 : Int).toNat).length (c0 - x5_2.toNat)] rfl (by (try simp only [List.map_toArray, List.map_cons, List.map_nil]); first | done | (rw [show (l0.drop (x5_2 : Int).toNat).length = (l0.length - x5_2.toNat) from List.length_drop] <;> rfl) | rfl | (simp only [List.length_drop, List.length_take]; rfl)) ?_; (with_reducible refine (embrasureref01_Get.calls _ _ (l0.drop (x5_2 : Int).toNat) t219 t220 t221 _ ?side1 ?side2 A17.out).mono ?_); (case side1 => repeat (first | exact (Kd.C_below HR218.out HB.out) | (with_reducible refine Kd.C_alloc ?_ _) | (with_reducible refine Kd.C_drewN ?_ _) | (with_reducible refine Kd.C_drew ?_))); (case side2 => exact HC218.out); rintro e w31 ⟨rfl, hb⟩; refine ⟨_, rfl, ?_⟩; have n0_ := Aside0.mk (Kd.R_below (by (with_reducible repeat (first | apply Kd.R_alloc | apply Kd.R_drewN | apply Kd.R_drew)); exact HO_217001.out) hb); have n1_ := Aside0.mk (blk_below (g := gb212) (o := .cells #[.int .i64 x213000_2, .slice none 0 0, .slice none 0 0, .slice none 0 0] 26 (0, 0)) (by (with_reducible repeat (first | refine blk_drewN ?_ _ | refine blk_drew ?_ | refine blk_alloc ?_ _)); exact BK212.out) hb); have n2_ := Aside0.mk (blk_below (g := gb216) (o := .cells #[.int .i64 (wrap64 (t213)), u217001, .slice none 0 0, .slice none 0 0] 26 (0, 0)) (by (with_reducible repeat (first | refine blk_drewN ?_ _ | refine blk_drew ?_ | refine blk_alloc ?_ _)); exact BK216.out) hb); have n3_ := Aside0.mk (below_step (by repeat (first | (with_reducible first | exact HB.out | apply below_alloc | apply pw_below_drewN | apply below_drew1 | refine below_set ?_ GE212.out | refine below_set ?_ GE216.out) | exact HB.out)) hb); clear HO_217001; clear BK212; clear BK216; clear HB; have HO_217001 := n0_; have BK212 := n1_; have BK216 := n2_; have HB := n3_; clear n0_ n1_ n2_ n3_; (try clear hb); (try clear hb2); (try clear hk); (try clear hi); have hcz32_0 : w31.cell? ⟨gb212, 0, none⟩ = some (.int .i64 x213000_2) := (blk_cell BK212.out 0).trans rfl; have hcz32_1 : w31.cell? ⟨gb212, 1, none⟩ = some (.slice none 0 0) := (blk_cell BK212.out 1).trans rfl; have hcz32_2 : w31.cell? ⟨gb212, 2, none⟩ = some (.slice none 0 0) := (blk_cell BK212.out 2).trans rfl; have hcz32_3 : w31.cell? ⟨gb212, 3, none⟩ = some (.slice none 0 0) := (blk_cell BK212.out 3).trans rfl; have hfz32_0 := blk_frozen BK212.out 0; have hfz32_1 := blk_frozen BK212.out 1; have hfz32_2 := blk_frozen BK212.out 2; have hfz32_3 := blk_frozen BK212.out 3))
                    refine bodyPost_ret (results_ct rfl _ _ gb212 26 #[.int .i64 0, .slice none 0 0, .slice none 0 0, .slice none 0 0] (0, 0) _ rfl (by (with_reducible repeat (first | refine blk_drewN ?_ _ | refine blk_drew ?_ | refine blk_alloc ?_ _)); refine blk_put (cs := #[.int .i64 0, .slice none 0 0, .slice none 0 0, .slice none 0 0]) ?_ 3 _ rfl; (with_reducible repeat (first | refine blk_drewN ?_ _ | refine blk_drew ?_ | refine blk_alloc ?_ _)); refine blk_put (cs := #[.int .i64 0, .slice none 0 0, .slice none 0 0, .slice none 0 0]) ?_ 2 _ rfl; (with_reducible repeat (first | refine blk_drewN ?_ _ | refine blk_drew ?_ | refine blk_alloc ?_ _)); refine blk_put (cs := #[.int .i64 0, .slice none 0 0, .slice none 0 0, .slice none 0 0]) ?_ 1 _ rfl; (with_reducible repeat (first | refine blk_drewN ?_ _ | refine blk_drew ?_ | refine blk_alloc ?_ _)); refine blk_put (cs := #[.int .i64 x213000_2, .slice none 0 0, .slice none 0 0, .slice none 0 0]) ?_ 0 _ rfl; (with_reducible repeat (first | refine blk_drewN ?_ _ | refine blk_drew ?_ | refine blk_alloc ?_ _)); exact BK212.out) Try.underlying26 rfl (by kernel_rfl)) rfl ?_
                    exact ⟨_, _, _, by first | rfl | (simp [errW_none, errW_some] <;> rfl) | (simp [*, errW_none, errW_some] <;> rfl), by first | exact Kd.R_nil _ _ _ _ _ | exact Kd.N_nil _ _ _ _ _ | exact Kd.V_nil _ _ _ _ _ | exact Kd.Q_nil _ _ _ _ _ | exact Kd.S_nil _ _ _ _ _, by first | exact Kd.R_nil _ _ _ _ _ | exact Kd.N_nil _ _ _ _ _ | exact Kd.V_nil _ _ _ _ _ | exact Kd.Q_nil _ _ _ _ _ | exact Kd.S_nil _ _ _ _ _, by first | exact Kd.R_nil _ _ _ _ _ | exact Kd.N_nil _ _ _ _ _ | exact Kd.V_nil _ _ _ _ _ | exact Kd.Q_nil _ _ _ _ _ | exact Kd.S_nil _ _ _ _ _, by repeat (first | (with_reducible first | exact HB.out | apply below_alloc | apply pw_below_drewN | apply below_drew1 | refine below_set ?_ GE212.out | refine below_set ?_ GE216.out) | exact HB.out)⟩
                · rw [if_neg c16] at H
                  exact absurd H (by simp)
              · rw [if_neg c15] at H
                exact absurd H (by simp)
            · rw [if_neg c14] at H
              have c14b0 : decide (x8_2 < t217) = false := decide_eq_false c14
              clear c14
              have HC33 := Aside0.mk H
              clear H
              have hnb34 := NB216_212.out
              have hnc34 := NB212_216.out
              have hcz35_0 : wr.cell? ⟨gb216, 0, none⟩ = some (.int .i64 (wrap64 (t213))) := (blk_cell BK216.out 0).trans rfl
              have hcz35_1 : wr.cell? ⟨gb216, 1, none⟩ = some (u217001) := (blk_cell BK216.out 1).trans rfl
              have hcz35_2 : wr.cell? ⟨gb216, 2, none⟩ = some (.slice none 0 0) := (blk_cell BK216.out 2).trans rfl
              have hcz35_3 : wr.cell? ⟨gb216, 3, none⟩ = some (.slice none 0 0) := (blk_cell BK216.out 3).trans rfl
              have hfz35_0 := blk_frozen BK216.out 0
              have hfz35_1 := blk_frozen BK216.out 1
              have hfz35_2 := blk_frozen BK216.out 2
              have hfz35_3 := blk_frozen BK216.out 3
              go_upto_region 13 with (first | ((with_reducible refine gate_callee (f := 17) rfl ?_); refine goesL_ (some 42) rfl rfl Try.func17 (by kernel_rfl) rfl #[.int .i64 (wrap64 (t213))] rfl (by (try simp only [List.map_toArray, List.map_cons, List.map_nil]); first | done | rfl | (simp only [List.length_drop, List.length_take]; rfl)) ?_; (with_reducible refine (embrasureref05_Nums.calls k2 (wrap64 (t213)) t217 _ A13.out).mono ?_); rintro e w' ⟨rfl, ⟨nd, rfl⟩⟩; refine ⟨_, rfl, ?_⟩))
              (try simp only [Act.put, List.setIfInBounds_toArray, List.set_cons_zero, List.set_cons_succ])
              go_cut [76] (fun v76 wc => ∃ (kq : Nat) (x76_32 : Bool), v76 = .bool x76_32 ∧ Aside0 (embrasureref05_FromBytes.j2 kq l0 x5_2 x76_32 (wrap64 (t213)) x217001_2 = some (r1, r2, r3, r4, r5)) ∧ Aside0 (kq ≤ k2) ∧ Aside0 (Kd.R (Kd.int .u64) 39 wc w.heap.size (fun _ => True) u217001 x217001_2) ∧ Aside0 (wc.heap[gb212]? = some (.cells #[.int .i64 x213000_2, (.slice none 0 0), (.slice none 0 0), (.slice none 0 0)] 26 (0, 0))) ∧ Aside0 (wc.heap[gb216]? = some (.cells #[.int .i64 (wrap64 (t213)), u217001, (.slice none 0 0), (.slice none 0 0)] 26 (0, 0))) ∧ Aside0 (Below w.heap.size w wc))
              case first =>
                have H := HC33.out
                clear HC33
                by_cases c36 : x5_2 ≥ (l0.length : Int)
                · rw [if_pos c36] at H
                  have c36b0 : decide ((l0.length : Int) ≤ x5_2) = true := decide_eq_true c36
                  clear c36
                  (first | rw [c36b0] | (simp only [i64_w, i32_w]; rw [c36b0]) | skip)
                  have H' := Aside0.mk H
                  clear H
                  go_wp2
                  go_meet
                  case rel => exact ⟨_, (true), (by first | rfl | (simp; done) | (simp [*]; done)), H', ⟨by have := HJ2.out; have := HK2.out; first | omega | exact Nat.le_refl _⟩, ⟨by (with_reducible repeat (first | apply Kd.R_alloc | apply Kd.R_drewN | apply Kd.R_drew)); exact HO_217001.out⟩, ⟨by (with_reducible repeat (first | refine blk_drewN ?_ _ | refine blk_drew ?_ | refine blk_alloc ?_ _)); exact BK212.out⟩, ⟨by (with_reducible repeat (first | refine blk_drewN ?_ _ | refine blk_drew ?_ | refine blk_alloc ?_ _)); exact BK216.out⟩, ⟨by repeat (first | (with_reducible first | exact HB.out | apply below_alloc | apply pw_below_drewN | apply below_drew1 | refine below_set ?_ GE212.out | refine below_set ?_ GE216.out) | exact HB.out)⟩⟩
                · rw [if_neg c36] at H
                  have c36b0 : decide ((l0.length : Int) ≤ x5_2) = false := decide_eq_false c36
                  clear c36
                  (first | rw [c36b0] | (simp only [i64_w, i32_w]; rw [c36b0]) | skip)
                  by_cases c37 : 0 ≤ x5_2
                  · rw [if_pos c37] at H
                    have c37b0 : decide (0 ≤ x5_2) = true := decide_eq_true c37
                    clear c37
                    by_cases c38 : x5_2 < (l0.length : Int)
                    · rw [if_pos c38] at H
                      have c38b0 : decide (x5_2 < (l0.length : Int)) = true := decide_eq_true c38
                      clear c38
                      have H' := Aside0.mk H
                      clear H
                      have p225 : 0 ≤ (x5_2 : Int) := of_decide_eq_true (by first | (with_reducible assumption) | assumption)
                      have q225 : x5_2 < (l0.length : Int) := of_decide_eq_true (by first | (with_reducible assumption) | assumption)
                      obtain ⟨ad225, e225, hx225_0⟩ := Kd.at_int HR0.out x5_2 p225 q225
                      cases e225
                      replace hx225_0 := (HB.out.cell (World.block_lt_of_cell? w _ hx225_0)).trans hx225_0
                      replace p225 := eq_true p225
                      replace q225 := eq_true q225
                      go_wp2
                      go_meet
                      case rel => exact ⟨_, (decide ((rd l0 x5_2) > 8)), (by first | rfl | (simp; done) | (simp [*]; done)), H', ⟨by have := HJ2.out; have := HK2.out; first | omega | exact Nat.le_refl _⟩, ⟨by (with_reducible repeat (first | apply Kd.R_alloc | apply Kd.R_drewN | apply Kd.R_drew)); exact HO_217001.out⟩, ⟨by (with_reducible repeat (first | refine blk_drewN ?_ _ | refine blk_drew ?_ | refine blk_alloc ?_ _)); exact BK212.out⟩, ⟨by (with_reducible repeat (first | refine blk_drewN ?_ _ | refine blk_drew ?_ | refine blk_alloc ?_ _)); exact BK216.out⟩, ⟨by repeat (first | (with_reducible first | exact HB.out | apply below_alloc | apply pw_below_drewN | apply below_drew1 | refine below_set ?_ GE212.out | refine below_set ?_ GE216.out) | exact HB.out)⟩⟩
                    · rw [if_neg c38] at H
                      exact absurd H (by simp)
                  · rw [if_neg c37] at H
                    exact absurd H (by simp)
              case rest =>
                clear HC33
                try clear c1
                try clear c2
                try clear p2
                try clear q2
                try clear hx2
                try clear c3
                try clear c6
                try clear c6b0
                try clear c6b1
                try clear p6
                try clear c7
                try clear c7b0
                try clear c8
                try clear c11
                try clear c14
                try clear c14b0
                try clear c15
                try clear c15b0
                try clear c15b1
                try clear c16
                try clear c16b0
                try clear c16b1
                try clear c17
                try clear c18
                try clear c18b0
                try clear c18b1
                try clear c19
                try clear c20
                try clear p22
                try clear q22
                try clear hx22
                try clear c28
                try clear c34
                try clear c36
                try clear c36b0
                try clear c37
                try clear c37b0
                try clear c38
                try clear c38b0
                try clear hcz12_0
                try clear hcz12_1
                try clear hcz12_2
                try clear hcz12_3
                try clear hcz21_0
                try clear hcz21_1
                try clear hcz21_2
                try clear hcz21_3
                try clear hcz24_0
                try clear hcz24_1
                try clear hcz24_2
                try clear hcz24_3
                try clear hcz27_0
                try clear hcz27_1
                try clear hcz27_2
                try clear hcz27_3
                try clear hcz29_0
                try clear hcz29_1
                try clear hcz29_2
                try clear hcz29_3
                try clear hcz32_0
                try clear hcz32_1
                try clear hcz32_2
                try clear hcz32_3
                try clear hcz35_0
                try clear hcz35_1
                try clear hcz35_2
                try clear hcz35_3
                try clear hcz9_0
                try clear hcz9_1
                try clear hcz9_2
                try clear hcz9_3
                try clear hfz12_0
                try clear hfz12_1
                try clear hfz12_2
                try clear hfz12_3
                try clear hfz21_0
                try clear hfz21_1
                try clear hfz21_2
                try clear hfz21_3
                try clear hfz24_0
                try clear hfz24_1
                try clear hfz24_2
                try clear hfz24_3
                try clear hfz27_0
                try clear hfz27_1
                try clear hfz27_2
                try clear hfz27_3
                try clear hfz29_0
                try clear hfz29_1
                try clear hfz29_2
                try clear hfz29_3
                try clear hfz32_0
                try clear hfz32_1
                try clear hfz32_2
                try clear hfz32_3
                try clear hfz35_0
                try clear hfz35_1
                try clear hfz35_2
                try clear hfz35_3
                try clear hfz9_0
                try clear hfz9_1
                try clear hfz9_2
                try clear hfz9_3
                try clear hx225_0
                try clear p2
                try clear p225
                try clear p6
                try clear q225
                obtain ⟨kq, x76_32, rfl, HA, HJ32, HO_217001, BK212, BK216, HB⟩ := hcut
                cases kq with
                | zero => exact absurd HA.out (by simp [embrasureref05_FromBytes.j2])
                | succ kj32 =>
                  have H := HA.out
                  clear HA
                  simp only [embrasureref05_FromBytes.j2] at H
                  by_cases c39 : x76_32 = true
                  · subst c39
                    have H1 : (some (0, ([] : List Int), ([] : List (S45)), ([] : List Int), 3)) = some (r1, r2, r3, r4, r5) := by rw [if_pos rfl] at H; exact H
                    clear H
                    have H := H1
                    clear H1
                    simp only [Option.some.injEq, Prod.mk.injEq] at H
                    obtain ⟨rfl, rfl, rfl, rfl, rfl⟩ := H
                    have hnb40 := NB212_216.out
                    have hnc40 := NB216_212.out
                    have hcz41_0 : wc.cell? ⟨gb212, 0, none⟩ = some (.int .i64 x213000_2) := (blk_cell BK212.out 0).trans rfl
                    have hcz41_1 : wc.cell? ⟨gb212, 1, none⟩ = some (.slice none 0 0) := (blk_cell BK212.out 1).trans rfl
                    have hcz41_2 : wc.cell? ⟨gb212, 2, none⟩ = some (.slice none 0 0) := (blk_cell BK212.out 2).trans rfl
                    have hcz41_3 : wc.cell? ⟨gb212, 3, none⟩ = some (.slice none 0 0) := (blk_cell BK212.out 3).trans rfl
                    have hfz41_0 := blk_frozen BK212.out 0
                    have hfz41_1 := blk_frozen BK212.out 1
                    have hfz41_2 := blk_frozen BK212.out 2
                    have hfz41_3 := blk_frozen BK212.out 3
                    go_wp2
                    refine bodyPost_ret (results_ct rfl _ _ gb212 26 #[.int .i64 0, .slice none 0 0, .slice none 0 0, .slice none 0 0] (0, 0) _ rfl (by (with_reducible repeat (first | refine blk_drewN ?_ _ | refine blk_drew ?_ | refine blk_alloc ?_ _)); refine blk_put (cs := #[.int .i64 0, .slice none 0 0, .slice none 0 0, .slice none 0 0]) ?_ 3 _ rfl; (with_reducible repeat (first | refine blk_drewN ?_ _ | refine blk_drew ?_ | refine blk_alloc ?_ _)); refine blk_put (cs := #[.int .i64 0, .slice none 0 0, .slice none 0 0, .slice none 0 0]) ?_ 2 _ rfl; (with_reducible repeat (first | refine blk_drewN ?_ _ | refine blk_drew ?_ | refine blk_alloc ?_ _)); refine blk_put (cs := #[.int .i64 0, .slice none 0 0, .slice none 0 0, .slice none 0 0]) ?_ 1 _ rfl; (with_reducible repeat (first | refine blk_drewN ?_ _ | refine blk_drew ?_ | refine blk_alloc ?_ _)); refine blk_put (cs := #[.int .i64 x213000_2, .slice none 0 0, .slice none 0 0, .slice none 0 0]) ?_ 0 _ rfl; (with_reducible repeat (first | refine blk_drewN ?_ _ | refine blk_drew ?_ | refine blk_alloc ?_ _)); exact BK212.out) Try.underlying26 rfl (by kernel_rfl)) rfl ?_
                    exact ⟨_, _, _, by first | rfl | (simp [errW_none, errW_some] <;> rfl) | (simp [*, errW_none, errW_some] <;> rfl), by first | exact Kd.R_nil _ _ _ _ _ | exact Kd.N_nil _ _ _ _ _ | exact Kd.V_nil _ _ _ _ _ | exact Kd.Q_nil _ _ _ _ _ | exact Kd.S_nil _ _ _ _ _, by first | exact Kd.R_nil _ _ _ _ _ | exact Kd.N_nil _ _ _ _ _ | exact Kd.V_nil _ _ _ _ _ | exact Kd.Q_nil _ _ _ _ _ | exact Kd.S_nil _ _ _ _ _, by first | exact Kd.R_nil _ _ _ _ _ | exact Kd.N_nil _ _ _ _ _ | exact Kd.V_nil _ _ _ _ _ | exact Kd.Q_nil _ _ _ _ _ | exact Kd.S_nil _ _ _ _ _, by repeat (first | (with_reducible first | exact HB.out | apply below_alloc | apply pw_below_drewN | apply below_drew1 | refine below_set ?_ GE212.out | refine below_set ?_ GE216.out) | exact HB.out)⟩
                  · replace c39 := Bool.eq_false_iff.mpr c39
                    subst c39
                    have H1 : (if 0 ≤ x5_2 then (if x5_2 < (l0.length : Int) then (embrasureref05_FromBytes.l1 kj32 l0 (wrap64 (x5_2 + 1)) (wrap64 (rd l0 x5_2)) 0 (wrap64 (t213)) x217001_2 ([] : List (S45))) else (none)) else (none)) = some (r1, r2, r3, r4, r5) := by rw [if_neg (show ¬ (false = true) by decide)] at H; exact H
                    clear H
                    have H := H1
                    clear H1
                    by_cases c42 : 0 ≤ x5_2
                    · rw [if_pos c42] at H
                      have c42b0 : decide (0 ≤ x5_2) = true := decide_eq_true c42
                      clear c42
                      by_cases c43 : x5_2 < (l0.length : Int)
                      · rw [if_pos c43] at H
                        have c43b0 : decide (x5_2 < (l0.length : Int)) = true := decide_eq_true c43
                        clear c43
                        have H' := Aside0.mk H
                        clear H
                        have p226 : 0 ≤ (x5_2 : Int) := of_decide_eq_true (by first | (with_reducible assumption) | assumption)
                        have q226 : x5_2 < (l0.length : Int) := of_decide_eq_true (by first | (with_reducible assumption) | assumption)
                        obtain ⟨ad226, e226, hx226_0⟩ := Kd.at_int HR0.out x5_2 p226 q226
                        cases e226
                        replace hx226_0 := (HB.out.cell (World.block_lt_of_cell? w _ hx226_0)).trans hx226_0
                        replace p226 := eq_true p226
                        replace q226 := eq_true q226
                        go_wp2
                        go_loopg [5, 13] kj32 (fun kq v5 v13 w' => ∃ (x5_4 : Int) (x13_4 : Int) (x213000_4 : Int) (x217002_4 : List (S45)) (u217002 : Value), v5 = .int .i64 x5_4 ∧ v13 = .int .i64 x13_4 ∧ Aside0 (embrasureref05_FromBytes.l1 kq l0 x5_4 (wrap64 (rd l0 x5_2)) x13_4 (wrap64 (t213)) x217001_2 x217002_4 = some (r1, r2, r3, r4, r5)) ∧ Aside0 (kq ≤ kj32) ∧ Aside0 (Kd.R (Kd.int .u64) 39 w' w.heap.size (fun _ => True) u217001 x217001_2) ∧ Aside0 (Kd.R k45 45 w' w.heap.size (fun _ => True) u217002 x217002_4) ∧ Aside0 (w'.heap[gb212]? = some (.cells #[.int .i64 x213000_4, (.slice none 0 0), (.slice none 0 0), (.slice none 0 0)] 26 (0, 0))) ∧ Aside0 (w'.heap[gb216]? = some (.cells #[.int .i64 (wrap64 (t213)), u217001, u217002, (.slice none 0 0)] 26 (0, 0))) ∧ Aside0 (Below w.heap.size w w'))
                        case atStart => exact ⟨(wrap64 (x5_2 + 1)), (0), (x213000_2), (([] : List (S45))), (.slice none 0 0), (by first | rfl | (simp; done) | (simp [*]; done)), (by first | rfl | (simp; done) | (simp [*]; done)), H', ⟨Nat.le_refl _⟩, ⟨by (with_reducible repeat (first | apply Kd.R_alloc | apply Kd.R_drewN | apply Kd.R_drew)); exact HO_217001.out⟩, ⟨by first | exact Kd.R_nil _ _ _ _ _ | exact Kd.N_nil _ _ _ _ _ | exact Kd.V_nil _ _ _ _ _ | exact Kd.Q_nil _ _ _ _ _ | exact Kd.S_nil _ _ _ _ _⟩, ⟨by (with_reducible repeat (first | refine blk_drewN ?_ _ | refine blk_drew ?_ | refine blk_alloc ?_ _)); exact BK212.out⟩, ⟨by (with_reducible repeat (first | refine blk_drewN ?_ _ | refine blk_drew ?_ | refine blk_alloc ?_ _)); exact BK216.out⟩, ⟨by repeat (first | (with_reducible first | exact HB.out | apply below_alloc | apply pw_below_drewN | apply below_drew1 | refine below_set ?_ GE212.out | refine below_set ?_ GE216.out) | exact HB.out)⟩⟩
                        case round =>
                          clear H'
                          try clear c1
                          try clear c2
                          try clear p2
                          try clear q2
                          try clear hx2
                          try clear c3
                          try clear c4
                          try clear c6
                          try clear c6b0
                          try clear c6b1
                          try clear p6
                          try clear c7
                          try clear c7b0
                          try clear c8
                          try clear c11
                          try clear c14
                          try clear c14b0
                          try clear c15
                          try clear c15b0
                          try clear c15b1
                          try clear c16
                          try clear c16b0
                          try clear c16b1
                          try clear c17
                          try clear c18
                          try clear c18b0
                          try clear c18b1
                          try clear c19
                          try clear c20
                          try clear p22
                          try clear q22
                          try clear hx22
                          try clear c28
                          try clear c34
                          try clear c36
                          try clear c36b0
                          try clear c37
                          try clear c37b0
                          try clear c38
                          try clear c38b0
                          try clear c39
                          try clear c40
                          try clear c42
                          try clear c42b0
                          try clear c43
                          try clear c43b0
                          try clear hcz12_0
                          try clear hcz12_1
                          try clear hcz12_2
                          try clear hcz12_3
                          try clear hcz21_0
                          try clear hcz21_1
                          try clear hcz21_2
                          try clear hcz21_3
                          try clear hcz24_0
                          try clear hcz24_1
                          try clear hcz24_2
                          try clear hcz24_3
                          try clear hcz27_0
                          try clear hcz27_1
                          try clear hcz27_2
                          try clear hcz27_3
                          try clear hcz29_0
                          try clear hcz29_1
                          try clear hcz29_2
                          try clear hcz29_3
                          try clear hcz32_0
                          try clear hcz32_1
                          try clear hcz32_2
                          try clear hcz32_3
                          try clear hcz35_0
                          try clear hcz35_1
                          try clear hcz35_2
                          try clear hcz35_3
                          try clear hcz41_0
                          try clear hcz41_1
                          try clear hcz41_2
                          try clear hcz41_3
                          try clear hcz9_0
                          try clear hcz9_1
                          try clear hcz9_2
                          try clear hcz9_3
                          try clear hfz12_0
                          try clear hfz12_1
                          try clear hfz12_2
                          try clear hfz12_3
                          try clear hfz21_0
                          try clear hfz21_1
                          try clear hfz21_2
                          try clear hfz21_3
                          try clear hfz24_0
                          try clear hfz24_1
                          try clear hfz24_2
                          try clear hfz24_3
                          try clear hfz27_0
                          try clear hfz27_1
                          try clear hfz27_2
                          try clear hfz27_3
                          try clear hfz29_0
                          try clear hfz29_1
                          try clear hfz29_2
                          try clear hfz29_3
                          try clear hfz32_0
                          try clear hfz32_1
                          try clear hfz32_2
                          try clear hfz32_3
                          try clear hfz35_0
                          try clear hfz35_1
                          try clear hfz35_2
                          try clear hfz35_3
                          try clear hfz41_0
                          try clear hfz41_1
                          try clear hfz41_2
                          try clear hfz41_3
                          try clear hfz9_0
                          try clear hfz9_1
                          try clear hfz9_2
                          try clear hfz9_3
                          try clear hx225_0
                          try clear hx226_0
                          try clear p2
                          try clear p22
                          try clear p225
                          try clear p226
                          try clear p6
                          try clear q2
                          try clear q22
                          try clear q225
                          try clear q226
                          obtain ⟨x5_4, x13_4, x213000_4, x217002_4, u217002, rfl, rfl, HA, HK4, HO_217001, HO_217002, BK212, BK216, HB⟩ := hrel
                          cases gk with
                          | zero => exact absurd HA.out (by simp [embrasureref05_FromBytes.l1])
                          | succ k4 =>
                            have H := HA.out
                            clear HA
                            simp only [embrasureref05_FromBytes.l1] at H
                            by_cases c44 : x13_4 < (wrap64 (rd l0 x5_2))
                            · rw [if_pos c44] at H
                              have c44b0 : decide (x13_4 < (wrap64 (rd l0 x5_2))) = true := decide_eq_true c44
                              clear c44
                              by_cases c45 : (wrap64 (x5_4 + 6)) > (l0.length : Int)
                              · rw [if_pos c45] at H
                                have c45b0 : decide ((l0.length : Int) < (wrap64 (x5_4 + 6))) = true := decide_eq_true c45
                                clear c45
                                simp only [Option.some.injEq, Prod.mk.injEq] at H
                                obtain ⟨rfl, rfl, rfl, rfl, rfl⟩ := H
                                have hnb46 := NB212_216.out
                                have hnc46 := NB216_212.out
                                have hcz47_0 : wr.cell? ⟨gb212, 0, none⟩ = some (.int .i64 x213000_4) := (blk_cell BK212.out 0).trans rfl
                                have hcz47_1 : wr.cell? ⟨gb212, 1, none⟩ = some (.slice none 0 0) := (blk_cell BK212.out 1).trans rfl
                                have hcz47_2 : wr.cell? ⟨gb212, 2, none⟩ = some (.slice none 0 0) := (blk_cell BK212.out 2).trans rfl
                                have hcz47_3 : wr.cell? ⟨gb212, 3, none⟩ = some (.slice none 0 0) := (blk_cell BK212.out 3).trans rfl
                                have hfz47_0 := blk_frozen BK212.out 0
                                have hfz47_1 := blk_frozen BK212.out 1
                                have hfz47_2 := blk_frozen BK212.out 2
                                have hfz47_3 := blk_frozen BK212.out 3
                                go_wp2
                                refine bodyPost_ret (results_ct rfl _ _ gb212 26 #[.int .i64 0, .slice none 0 0, .slice none 0 0, .slice none 0 0] (0, 0) _ rfl (by (with_reducible repeat (first | refine blk_drewN ?_ _ | refine blk_drew ?_ | refine blk_alloc ?_ _)); refine blk_put (cs := #[.int .i64 0, .slice none 0 0, .slice none 0 0, .slice none 0 0]) ?_ 3 _ rfl; (with_reducible repeat (first | refine blk_drewN ?_ _ | refine blk_drew ?_ | refine blk_alloc ?_ _)); refine blk_put (cs := #[.int .i64 0, .slice none 0 0, .slice none 0 0, .slice none 0 0]) ?_ 2 _ rfl; (with_reducible repeat (first | refine blk_drewN ?_ _ | refine blk_drew ?_ | refine blk_alloc ?_ _)); refine blk_put (cs := #[.int .i64 0, .slice none 0 0, .slice none 0 0, .slice none 0 0]) ?_ 1 _ rfl; (with_reducible repeat (first | refine blk_drewN ?_ _ | refine blk_drew ?_ | refine blk_alloc ?_ _)); refine blk_put (cs := #[.int .i64 x213000_4, .slice none 0 0, .slice none 0 0, .slice none 0 0]) ?_ 0 _ rfl; (with_reducible repeat (first | refine blk_drewN ?_ _ | refine blk_drew ?_ | refine blk_alloc ?_ _)); exact BK212.out) Try.underlying26 rfl (by kernel_rfl)) rfl ?_
                                exact ⟨_, _, _, by first | rfl | (simp [errW_none, errW_some] <;> rfl) | (simp [*, errW_none, errW_some] <;> rfl), by first | exact Kd.R_nil _ _ _ _ _ | exact Kd.N_nil _ _ _ _ _ | exact Kd.V_nil _ _ _ _ _ | exact Kd.Q_nil _ _ _ _ _ | exact Kd.S_nil _ _ _ _ _, by first | exact Kd.R_nil _ _ _ _ _ | exact Kd.N_nil _ _ _ _ _ | exact Kd.V_nil _ _ _ _ _ | exact Kd.Q_nil _ _ _ _ _ | exact Kd.S_nil _ _ _ _ _, by first | exact Kd.R_nil _ _ _ _ _ | exact Kd.N_nil _ _ _ _ _ | exact Kd.V_nil _ _ _ _ _ | exact Kd.Q_nil _ _ _ _ _ | exact Kd.S_nil _ _ _ _ _, by repeat (first | (with_reducible first | exact HB.out | apply below_alloc | apply pw_below_drewN | apply below_drew1 | refine below_set ?_ GE212.out | refine below_set ?_ GE216.out) | exact HB.out)⟩
                              · rw [if_neg c45] at H
                                have c45b0 : decide ((l0.length : Int) < (wrap64 (x5_4 + 6))) = false := decide_eq_false c45
                                clear c45
                                by_cases c48 : 0 ≤ x5_4
                                · rw [if_pos c48] at H
                                  have c48b0 := eq_true c48
                                  have c48b1 : decide (0 ≤ x5_4) = true := decide_eq_true c48
                                  clear c48
                                  by_cases c49 : x5_4 ≤ (wrap64 (x5_4 + 6))
                                  · rw [if_pos c49] at H
                                    have c49b0 := eq_true c49
                                    have c49b1 : decide (x5_4 ≤ (wrap64 (x5_4 + 6))) = true := decide_eq_true c49
                                    by_cases c50 : (wrap64 (x5_4 + 6)) ≤ (l0.length : Int)
                                    · rw [if_pos c50] at H
                                      have c50b0 := eq_true c50
                                      have c50b1 : decide ((wrap64 (x5_4 + 6)) ≤ (l0.length : Int)) = true := decide_eq_true c50
                                      replace H := Option.bind_eq_some_iff.mp H
                                      obtain ⟨⟨t228, t229, t230⟩, A510, H⟩ := H
                                      replace H : (if x217002_4.length < 8796093022208 then (embrasureref05_FromBytes.l1 k4 l0 (wrap64 (x5_4 + 6)) (wrap64 (rd l0 x5_2)) (wrap64 (x13_4 + 1)) (wrap64 (t213)) x217001_2 (x217002_4 ++ [(⟨t228, t229⟩ : S45)])) else (none)) = some (r1, r2, r3, r4, r5) := H
                                      have A51 := Aside0.mk A510
                                      clear A510
                                      by_cases c52 : x217002_4.length < 8796093022208
                                      · rw [if_pos c52] at H
                                        have LMc52 := Aside0.mk c52
                                        clear c52
                                        obtain ⟨y232, hy232⟩ : ∃ y_ : List (S45), y_ = (x217002_4 ++ [(⟨t228, t229⟩ : S45)]) := ⟨_, rfl⟩
                                        replace H : (embrasureref05_FromBytes.l1 k4 l0 (wrap64 (x5_4 + 6)) (wrap64 (rd l0 x5_2)) (wrap64 (x13_4 + 1)) (wrap64 (t213)) x217001_2 y232) = some (r1, r2, r3, r4, r5) := by first | (rw [hy232]; with_reducible exact H) | (have H2_ := (Option.bind_some _ _).symm.trans H; rw [hy232]; with_reducible exact H2_) | (have H2_ := (Option.bind_some _ _).symm.trans H; with_reducible exact H2_) | with_reducible exact H | (rw [hy232]; exact H) | exact H
                                        have Ny232 := Aside0.mk hy232
                                        clear hy232
                                        have H' := Aside0.mk H
                                        clear H
                                        obtain ⟨i053, hi053, _, hsz53, _⟩ := info_parts info5
                                        obtain ⟨A53, hcut53, hA53, hC53⟩ := print_mid_of (P := Try.prog) (Value.int .u8) 0 24 5 .i64 .i64 Try.underlying24 hi053 hsz53 (some ad226) c0 l0 x5_4 (wrap64 (x5_4 + 6)) (of_decide_eq_true (by first | (with_reducible assumption) | assumption)) (by first | omega | exact of_decide_eq_true (by first | (with_reducible assumption) | assumption)) (of_decide_eq_true (by first | (with_reducible assumption) | assumption)) HC0.out
                                        have HR227 := Aside0.mk (Kd.C_of_reads (h1 := fun _ => rfl) (hA53 _ (Kd.reads_of_C HR0.out)))
                                        have HC227 := Aside0.mk hC53
                                        clear hA53 hC53 hi053 hsz53
                                        go_wp2_with (first | ((with_reducible refine gate_callee (f := 39) rfl ?_); refine goesL_ (some 102) rfl rfl Try.func39 (by kernel_rfl) rfl #[.slice A53 ((l0.take ((wrap64 (x5_4 + 6)) : Int).toNat).drop (x5_4 : Int).toNat).length (c0 - x5_4.toNat)] rfl (by (try simp only [List.map_toArray, List.map_cons, List.map_nil]); first | done | (rw [show ((l0.take ((wrap64 (x5_4 + 6)) : Int).toNat).drop (x5_4 : Int).toNat).length = ((wrap64 (x5_4 + 6)).toNat - x5_4.toNat) from (by rw [List.length_drop, List.length_take]; have h_ : ((wrap64 (x5_4 + 6)) : Int) ≤ (l0.length : Int) := of_decide_eq_true (by first | (with_reducible assumption) | assumption); omega)] <;> rfl) | rfl | (simp only [List.length_drop, List.length_take]; rfl)) ?_; (with_reducible refine (embrasureref03_FromBytes.calls _ _ ((l0.take ((wrap64 (x5_4 + 6)) : Int).toNat).drop (x5_4 : Int).toNat) t228 t229 t230 _ ?side1 ?side2 A51.out).mono ?_); (case side1 => repeat (first | exact (Kd.C_below HR227.out HB.out) | (with_reducible refine Kd.C_alloc ?_ _) | (with_reducible refine Kd.C_drewN ?_ _) | (with_reducible refine Kd.C_drew ?_))); (case side2 => exact HC227.out); rintro e w54 ⟨rfl, hb⟩; refine ⟨_, rfl, ?_⟩; have n0_ := Aside0.mk (Kd.R_below (by (with_reducible repeat (first | apply Kd.R_alloc | apply Kd.R_drewN | apply Kd.R_drew)); exact HO_217001.out) hb); have n1_ := Aside0.mk (Kd.R_below (by (with_reducible repeat (first | apply Kd.R_alloc | apply Kd.R_drewN | apply Kd.R_drew)); exact HO_217002.out) hb); have n2_ := Aside0.mk (blk_below (g := gb212) (o := .cells #[.int .i64 x213000_4, .slice none 0 0, .slice none 0 0, .slice none 0 0] 26 (0, 0)) (by (with_reducible repeat (first | refine blk_drewN ?_ _ | refine blk_drew ?_ | refine blk_alloc ?_ _)); exact BK212.out) hb); have n3_ := Aside0.mk (blk_below (g := gb216) (o := .cells #[.int .i64 (wrap64 (t213)), u217001, u217002, .slice none 0 0] 26 (0, 0)) (by (with_reducible repeat (first | refine blk_drewN ?_ _ | refine blk_drew ?_ | refine blk_alloc ?_ _)); exact BK216.out) hb); have n4_ := Aside0.mk (below_step (by repeat (first | (with_reducible first | exact HB.out | apply below_alloc | apply pw_below_drewN | apply below_drew1 | refine below_set ?_ GE212.out | refine below_set ?_ GE216.out) | exact HB.out)) hb); clear HO_217001; clear HO_217002; clear BK212; clear BK216; clear HB; have HO_217001 := n0_; have HO_217002 := n1_; have BK212 := n2_; have BK216 := n3_; have HB := n4_; clear n0_ n1_ n2_ n3_ n4_; (try clear hb); (try clear hb2); (try clear hk); (try clear hi)) | ((with_reducible refine gate_dst (N := 14) rfl ?_); refine box_event ?hg (N := 14) ?hd (cs := #[.int .u32 0, .int .i64 0]) (t := 45) ?hr ?_; (case hd => rfl); (case hg => rfl); (case hr => first | (go_simp; done) | (go_simp; rfl)); intro gb231 hg w55 hbox hb; have n0_ := Aside0.mk (Kd.R_below (by (with_reducible repeat (first | apply Kd.R_alloc | apply Kd.R_drewN | apply Kd.R_drew)); exact HO_217001.out) hb); have n1_ := Aside0.mk (Kd.R_below (Kd.R_elderB (by (with_reducible repeat (first | apply Kd.R_alloc | apply Kd.R_drewN | apply Kd.R_drew)); exact HO_217002.out) gb231 (Nat.le_of_eq hg.symm)) hb); have n2_ := Aside0.mk (blk_below (g := gb212) (o := .cells #[.int .i64 x213000_4, .slice none 0 0, .slice none 0 0, .slice none 0 0] 26 (0, 0)) (by (with_reducible repeat (first | refine blk_drewN ?_ _ | refine blk_drew ?_ | refine blk_alloc ?_ _)); exact BK212.out) hb); have n3_ := Aside0.mk (blk_below (g := gb216) (o := .cells #[.int .i64 (wrap64 (t213)), u217001, u217002, .slice none 0 0] 26 (0, 0)) (by (with_reducible repeat (first | refine blk_drewN ?_ _ | refine blk_drew ?_ | refine blk_alloc ?_ _)); exact BK216.out) hb); have n4_ := Aside0.mk (below_step (by repeat (first | (with_reducible first | exact HB.out | apply below_alloc | apply pw_below_drewN | apply below_drew1 | refine below_set ?_ GE212.out | refine below_set ?_ GE216.out) | exact HB.out)) hb); have n5_ := Aside0.mk (hbox); have n6_ := Aside0.mk ((by rw [hg]; exact (below_size (by repeat (first | (with_reducible first | exact HB.out | apply below_alloc | apply pw_below_drewN | apply below_drew1 | refine below_set ?_ GE212.out | refine below_set ?_ GE216.out) | exact HB.out))) : w.heap.size ≤ gb231)); have n7_ := Aside0.mk ((by rw [hg]; exact (below_size (by repeat (first | (with_reducible first | exact HB.out | apply below_alloc | apply pw_below_drewN | apply below_drew1 | refine below_set ?_ GE212.out | refine below_set ?_ GE216.out) | exact HB.out))) : w.heap.size ≤ gb231)); have n8_ := Aside0.mk ((by rw [hg]; exact Nat.ne_of_lt (blk_lt (g := gb212) (o := .cells #[.int .i64 x213000_4, .slice none 0 0, .slice none 0 0, .slice none 0 0] 26 (0, 0)) (by (with_reducible repeat (first | refine blk_drewN ?_ _ | refine blk_drew ?_ | refine blk_alloc ?_ _)); exact BK212.out)) : gb212 ≠ gb231)); have n9_ := Aside0.mk ((by rw [hg]; exact Nat.ne_of_gt (blk_lt (g := gb212) (o := .cells #[.int .i64 x213000_4, .slice none 0 0, .slice none 0 0, .slice none 0 0] 26 (0, 0)) (by (with_reducible repeat (first | refine blk_drewN ?_ _ | refine blk_drew ?_ | refine blk_alloc ?_ _)); exact BK212.out)) : gb231 ≠ gb212)); have n10_ := Aside0.mk ((by rw [hg]; exact Nat.ne_of_lt (blk_lt (g := gb216) (o := .cells #[.int .i64 (wrap64 (t213)), u217001, u217002, .slice none 0 0] 26 (0, 0)) (by (with_reducible repeat (first | refine blk_drewN ?_ _ | refine blk_drew ?_ | refine blk_alloc ?_ _)); exact BK216.out)) : gb216 ≠ gb231)); have n11_ := Aside0.mk ((by rw [hg]; exact Nat.ne_of_gt (blk_lt (g := gb216) (o := .cells #[.int .i64 (wrap64 (t213)), u217001, u217002, .slice none 0 0] 26 (0, 0)) (by (with_reducible repeat (first | refine blk_drewN ?_ _ | refine blk_drew ?_ | refine blk_alloc ?_ _)); exact BK216.out)) : gb231 ≠ gb216)); clear HO_217001; clear HO_217002; clear BK212; clear BK216; clear HB; have HO_217001 := n0_; have HO_217002 := n1_; have BK212 := n2_; have BK216 := n3_; have HB := n4_; have BK231 := n5_; have GW231 := n6_; have GE231 := n7_; have NB212_231 := n8_; have NB231_212 := n9_; have NB216_231 := n10_; have NB231_216 := n11_; clear n0_ n1_ n2_ n3_ n4_ n5_ n6_ n7_ n8_ n9_ n10_ n11_; clear hb hbox hg; have hnb56 := NB231_212.out; have hnc56 := NB212_231.out; have hnb57 := NB231_216.out; have hnc57 := NB216_231.out; have hcz58_0 : w55.cell? ⟨gb231, 0, none⟩ = some (.int .u32 0) := (blk_cell BK231.out 0).trans rfl; have hcz58_1 : w55.cell? ⟨gb231, 1, none⟩ = some (.int .i64 0) := (blk_cell BK231.out 1).trans rfl; have hfz58_0 := blk_frozen BK231.out 0; have hfz58_1 := blk_frozen BK231.out 1; have hnb59 := NB216_212.out; have hnc59 := NB212_216.out; have hcz60_0 : w55.cell? ⟨gb216, 0, none⟩ = some (.int .i64 (wrap64 (t213))) := (blk_cell BK216.out 0).trans rfl; have hcz60_1 : w55.cell? ⟨gb216, 1, none⟩ = some (u217001) := (blk_cell BK216.out 1).trans rfl; have hcz60_2 : w55.cell? ⟨gb216, 2, none⟩ = some (u217002) := (blk_cell BK216.out 2).trans rfl; have hcz60_3 : w55.cell? ⟨gb216, 3, none⟩ = some (.slice none 0 0) := (blk_cell BK216.out 3).trans rfl; have hfz60_0 := blk_frozen BK216.out 0; have hfz60_1 := blk_frozen BK216.out 1; have hfz60_2 := blk_frozen BK216.out 2; have hfz60_3 := blk_frozen BK216.out 3) | ((with_reducible refine gate_builtin (b := .append) (xs := #[.tmp 106, .tmp 108]) rfl ?_); at_builtin; refine Kd.R_append k45 (w0 := w) w.heap.size rfl (.tmp 106) (.tmp 108) 23 45 (.agg #[(.int .u32 0), (.int .i64 0)]) 16 rfl Try.underlying23 info45 rfl (by decide) (by omega) u217002 x217002_4 (⟨t228, t229⟩ : S45) [.int .u32 t228, .int .i64 t229] (fun k_ => k_ ≠ gb231) (fun _ => False) rfl (by first | (go_simp; done) | (go_simp; rfl)) ?aP (fun _ hk => hk.elim) ?aF ?aO ?aB ?aS ?aL ?_; (case aP => exact k45_mkM _ _ _ (⟨t228, t229⟩ : S45)); (case aB => exact (by repeat (first | (with_reducible first | exact HB.out | apply below_alloc | apply pw_below_drewN | apply below_drew1 | refine below_set ?_ GE212.out | refine below_set ?_ GE216.out | refine below_set ?_ GE231.out) | exact HB.out))); (case aF => exact (fun k_ hk => Kd.freshB (g := gb231) (o := .cells #[.int .u32 t228, .int .i64 t229] 45 (0, 0)) (by (with_reducible repeat (first | refine blk_drewN ?_ _ | refine blk_drew ?_ | refine blk_alloc ?_ _)); refine blk_put (cs := #[.int .u32 t228, .int .i64 0]) ?_ 1 _ rfl; (with_reducible repeat (first | refine blk_drewN ?_ _ | refine blk_drew ?_ | refine blk_alloc ?_ _)); refine blk_put (cs := #[.int .u32 0, .int .i64 0]) ?_ 0 _ rfl; (with_reducible repeat (first | refine blk_drewN ?_ _ | refine blk_drew ?_ | refine blk_alloc ?_ _)); exact BK231.out) k_ hk)); (case aO => exact (by (with_reducible repeat (first | apply Kd.R_alloc | apply Kd.R_drewN | apply Kd.R_drew)); exact Kd.R_mono (Kd.R_far (p := ⟨gb231, 1, none⟩) (Kd.R_far (p := ⟨gb231, 0, none⟩) (Kd.R_mono HO_217002.out (fun k_ hk => (⟨hk, hk.2⟩ : _ ∧ k_ ≠ gb231))) (fun _ hk => hk.2) (.int .u32 t228)) (fun _ hk => hk.2) (.int .i64 t229)) (fun _ hk => hk.1.2))); (case aS => exact (below_size (by repeat (first | (with_reducible first | exact HB.out | apply below_alloc | apply pw_below_drewN | apply below_drew1 | refine below_set ?_ GE212.out | refine below_set ?_ GE216.out | refine below_set ?_ GE231.out) | exact HB.out)))); (case aL => have := LMc52.out; omega); intro v233 w61 ho hb hg hat; rw [← Ny232.out] at ho; have n0_ := Aside0.mk (Kd.R_over' (by (with_reducible repeat (first | apply Kd.R_alloc | apply Kd.R_drewN | apply Kd.R_drew)); exact (Kd.R_mono (Kd.R_far (p := ⟨gb231, 1, none⟩) (Kd.R_far (p := ⟨gb231, 0, none⟩) (Kd.R_types HO_217001.out BK231.out (by decide)) (fun _ hk => hk.2) (.int .u32 t228)) (fun _ hk => hk.2) (.int .i64 t229)) (fun _ h_ => h_.1))) (Kd.R_typed (by (with_reducible repeat (first | apply Kd.R_alloc | apply Kd.R_drewN | apply Kd.R_drew)); exact (Kd.R_mono (Kd.R_far (p := ⟨gb231, 1, none⟩) (Kd.R_far (p := ⟨gb231, 0, none⟩) (Kd.R_mono HO_217002.out (fun k_ hk => (⟨hk, hk.2⟩ : _ ∧ k_ ≠ gb231))) (fun _ hk => hk.2) (.int .u32 t228)) (fun _ hk => hk.2) (.int .i64 t229)) (fun _ h_ => h_.1)))) (by decide) hg); have n1_ := Aside0.mk (blk_grown (g := gb212) (o := .cells #[.int .i64 x213000_4, .slice none 0 0, .slice none 0 0, .slice none 0 0] 26 (0, 0)) (by (with_reducible repeat (first | refine blk_drewN ?_ _ | refine blk_drew ?_ | refine blk_alloc ?_ _)); refine blk_far ?_ NB212_231.out _; (with_reducible repeat (first | refine blk_drewN ?_ _ | refine blk_drew ?_ | refine blk_alloc ?_ _)); refine blk_far ?_ NB212_231.out _; (with_reducible repeat (first | refine blk_drewN ?_ _ | refine blk_drew ?_ | refine blk_alloc ?_ _)); exact BK212.out) hg (Kd.R_ne HO_217002.out BK212.out (by decide))); have n2_ := Aside0.mk (blk_grown (g := gb216) (o := .cells #[.int .i64 (wrap64 (t213)), u217001, u217002, .slice none 0 0] 26 (0, 0)) (by (with_reducible repeat (first | refine blk_drewN ?_ _ | refine blk_drew ?_ | refine blk_alloc ?_ _)); refine blk_far ?_ NB216_231.out _; (with_reducible repeat (first | refine blk_drewN ?_ _ | refine blk_drew ?_ | refine blk_alloc ?_ _)); refine blk_far ?_ NB216_231.out _; (with_reducible repeat (first | refine blk_drewN ?_ _ | refine blk_drew ?_ | refine blk_alloc ?_ _)); exact BK216.out) hg (Kd.R_ne HO_217002.out BK216.out (by decide))); have n3_ := Aside0.mk (blk_grown (g := gb231) (o := .cells #[.int .u32 t228, .int .i64 t229] 45 (0, 0)) (by (with_reducible repeat (first | refine blk_drewN ?_ _ | refine blk_drew ?_ | refine blk_alloc ?_ _)); refine blk_put (cs := #[.int .u32 t228, .int .i64 0]) ?_ 1 _ rfl; (with_reducible repeat (first | refine blk_drewN ?_ _ | refine blk_drew ?_ | refine blk_alloc ?_ _)); refine blk_put (cs := #[.int .u32 0, .int .i64 0]) ?_ 0 _ rfl; (with_reducible repeat (first | refine blk_drewN ?_ _ | refine blk_drew ?_ | refine blk_alloc ?_ _)); exact BK231.out) hg (Kd.R_away HO_217002.out (fun _ hk => hk.2))); have n4_ := Aside0.mk (hb); have n5_ := Aside0.mk (ho); clear HO_217001; clear BK212; clear BK216; clear BK231; clear HB; clear HO_217002; have HO_217001 := n0_; have BK212 := n1_; have BK216 := n2_; have BK231 := n3_; have HB := n4_; have HO234 := n5_; clear n0_ n1_ n2_ n3_ n4_ n5_; clear ho hb hg hat; obtain ⟨Ao62, co62, eo62⟩ := Kd.R_slice HO234.out; subst eo62; have hcz63_0 : w61.cell? ⟨gb216, 0, none⟩ = some (.int .i64 (wrap64 (t213))) := (blk_cell BK216.out 0).trans rfl; have hcz63_1 : w61.cell? ⟨gb216, 1, none⟩ = some (u217001) := (blk_cell BK216.out 1).trans rfl; have hcz63_2 : w61.cell? ⟨gb216, 2, none⟩ = some (u217002) := (blk_cell BK216.out 2).trans rfl; have hcz63_3 : w61.cell? ⟨gb216, 3, none⟩ = some (.slice none 0 0) := (blk_cell BK216.out 3).trans rfl; have hfz63_0 := blk_frozen BK216.out 0; have hfz63_1 := blk_frozen BK216.out 1; have hfz63_2 := blk_frozen BK216.out 2; have hfz63_3 := blk_frozen BK216.out 3))
                                        go_roundg k4
                                        case measure => have := HJ2.out; have := HK2.out; have := HJ32.out; have := HK4.out; omega
                                        case rel => exact ⟨(wrap64 (x5_4 + 6)), (wrap64 (x13_4 + 1)), (x213000_4), (y232), (.slice Ao62 y232.length co62), (by first | rfl | (simp; done) | (simp [*]; done)), (by first | rfl | (simp; done) | (simp [*]; done)), H', ⟨by have := HJ2.out; have := HK2.out; have := HJ32.out; have := HK4.out; omega⟩, ⟨by (with_reducible repeat (first | apply Kd.R_alloc | apply Kd.R_drewN | apply Kd.R_drew)); exact Kd.R_mono (Kd.R_far (p := ⟨gb216, 2, none⟩) (Kd.R_types HO_217001.out BK216.out (by decide)) (fun _ hk => hk.2) (.slice Ao62 y232.length co62)) (fun _ hk => trivial)⟩, ⟨by (with_reducible repeat (first | apply Kd.R_alloc | apply Kd.R_drewN | apply Kd.R_drew)); exact Kd.R_mono (Kd.R_far (p := ⟨gb216, 2, none⟩) (Kd.R_types HO234.out BK216.out (by decide)) (fun _ hk => hk.2) (.slice Ao62 y232.length co62)) (fun _ hk => trivial)⟩, ⟨by (with_reducible repeat (first | refine blk_drewN ?_ _ | refine blk_drew ?_ | refine blk_alloc ?_ _)); refine blk_far ?_ NB212_216.out _; (with_reducible repeat (first | refine blk_drewN ?_ _ | refine blk_drew ?_ | refine blk_alloc ?_ _)); exact BK212.out⟩, ⟨by (with_reducible repeat (first | refine blk_drewN ?_ _ | refine blk_drew ?_ | refine blk_alloc ?_ _)); refine blk_put (cs := #[.int .i64 (wrap64 (t213)), u217001, u217002, .slice none 0 0]) ?_ 2 _ rfl; (with_reducible repeat (first | refine blk_drewN ?_ _ | refine blk_drew ?_ | refine blk_alloc ?_ _)); exact BK216.out⟩, ⟨by repeat (first | (with_reducible first | exact HB.out | apply below_alloc | apply pw_below_drewN | apply below_drew1 | refine below_set ?_ GE212.out | refine below_set ?_ GE216.out | refine below_set ?_ GE231.out) | exact HB.out)⟩⟩
                                      · rw [if_neg c52] at H
                                        exact absurd H (by simp)
                                    · rw [if_neg c50] at H
                                      exact absurd H (by simp)
                                  · rw [if_neg c49] at H
                                    exact absurd H (by simp)
                                · rw [if_neg c48] at H
                                  exact absurd H (by simp)
                            · rw [if_neg c44] at H
                              have c44b0 : decide (x13_4 < (wrap64 (rd l0 x5_2))) = false := decide_eq_false c44
                              clear c44
                              by_cases c64 : 0 ≤ x5_4
                              · rw [if_pos c64] at H
                                have c64b0 := eq_true c64
                                have c64b1 : decide (0 ≤ x5_4) = true := decide_eq_true c64
                                clear c64
                                by_cases c65 : x5_4 ≤ (l0.length : Int)
                                · rw [if_pos c65] at H
                                  have c65b0 := eq_true c65
                                  have c65b1 : decide (x5_4 ≤ (l0.length : Int)) = true := decide_eq_true c65
                                  clear c65
                                  replace H := Option.bind_eq_some_iff.mp H
                                  obtain ⟨⟨t236, t237, t238⟩, A660, H⟩ := H
                                  replace H : (if t238 = 0 then ((embrasureref05_Bytes.f k4 (wrap64 (t213)) x217001_2 x217002_4 t236).bind fun t241 => ((embrasureref01_Same.f t241 l0).bind fun t244 => (if t244 = true then (some ((wrap64 (t213)), x217001_2, x217002_4, t236, 0)) else (some (0, ([] : List Int), ([] : List (S45)), ([] : List Int), 3))))) else (some (0, ([] : List Int), ([] : List (S45)), ([] : List Int), 3))) = some (r1, r2, r3, r4, r5) := H
                                  have A66 := Aside0.mk A660
                                  clear A660
                                  by_cases c67 : t238 = 0
                                  · rw [if_pos c67] at H
                                    have c67b0 : (t238 == 0) = true := beq_iff_eq.mpr c67
                                    have c67b1 : (t238 != 0) = false := bne_eq_false_iff_eq.mpr c67
                                    clear c67
                                    replace H := Option.bind_eq_some_iff.mp H
                                    obtain ⟨t241, A680, H⟩ := H
                                    replace H : ((embrasureref01_Same.f t241 l0).bind fun t244 => (if t244 = true then (some ((wrap64 (t213)), x217001_2, x217002_4, t236, 0)) else (some (0, ([] : List Int), ([] : List (S45)), ([] : List Int), 3)))) = some (r1, r2, r3, r4, r5) := H
                                    have A68 := Aside0.mk A680
                                    clear A680
                                    replace H := Option.bind_eq_some_iff.mp H
                                    obtain ⟨t244, A690, H⟩ := H
                                    replace H : (if t244 = true then (some ((wrap64 (t213)), x217001_2, x217002_4, t236, 0)) else (some (0, ([] : List Int), ([] : List (S45)), ([] : List Int), 3))) = some (r1, r2, r3, r4, r5) := H
                                    have A69 := Aside0.mk A690
                                    clear A690
                                    by_cases c70 : t244 = true
                                    · subst c70
                                      have H1 : (some ((wrap64 (t213)), x217001_2, x217002_4, t236, 0)) = some (r1, r2, r3, r4, r5) := by rw [if_pos rfl] at H; exact H
                                      clear H
                                      have H := H1
                                      clear H1
                                      simp only [Option.some.injEq, Prod.mk.injEq] at H
                                      obtain ⟨rfl, rfl, rfl, rfl, rfl⟩ := H
                                      obtain ⟨i071, hi071, _, hsz71, _⟩ := info_parts info5
                                      obtain ⟨A71, hcut71, hA71, hC71⟩ := print_drop_of (P := Try.prog) (Value.int .u8) 0 24 5 .i64 Try.underlying24 hi071 hsz71 (some ad226) c0 l0 x5_4 (of_decide_eq_true (by first | (with_reducible assumption) | assumption)) (of_decide_eq_true (by first | (with_reducible assumption) | assumption)) HC0.out
                                      have HR235 := Aside0.mk (Kd.C_of_reads (h1 := fun _ => rfl) (hA71 _ (Kd.reads_of_C HR0.out)))
                                      have HC235 := Aside0.mk hC71
                                      clear hA71 hC71 hi071 hsz71
                                      go_wp2_with (first | ((with_reducible refine gate_callee (f := 40) rfl ?_); refine goesL_ (some 117) rfl rfl Try.func40 (by kernel_rfl) rfl #[.slice A71 (l0.drop (x5_4 : Int).toNat).length (c0 - x5_4.toNat)] rfl (by (try simp only [List.map_toArray, List.map_cons, List.map_nil]); first | done | (rw [show (l0.drop (x5_4 : Int).toNat).length = (l0.length - x5_4.toNat) from List.length_drop] <;> rfl) | rfl | (simp only [List.length_drop, List.length_take]; rfl)) ?_; (with_reducible refine (embrasureref02_Get.calls _ _ (l0.drop (x5_4 : Int).toNat) t236 t237 t238 _ ?side1 ?side2 A66.out).mono ?_); (case side1 => repeat (first | exact (Kd.C_below HR235.out HB.out) | (with_reducible refine Kd.C_alloc ?_ _) | (with_reducible refine Kd.C_drewN ?_ _) | (with_reducible refine Kd.C_drew ?_))); (case side2 => exact HC235.out); rintro e w72 ⟨v239, rfl, ho0, hb⟩; refine ⟨_, rfl, ?_⟩; have n0_ := Aside0.mk (Kd.R_below (by (with_reducible repeat (first | apply Kd.R_alloc | apply Kd.R_drewN | apply Kd.R_drew)); exact HO_217001.out) hb); have n1_ := Aside0.mk (Kd.R_below (by (with_reducible repeat (first | apply Kd.R_alloc | apply Kd.R_drewN | apply Kd.R_drew)); exact HO_217002.out) hb); have n2_ := Aside0.mk (Kd.R_lower ho0 (below_size (by repeat (first | (with_reducible first | exact HB.out | apply below_alloc | apply pw_below_drewN | apply below_drew1 | refine below_set ?_ GE212.out | refine below_set ?_ GE216.out) | exact HB.out)))); have n3_ := Aside0.mk (blk_below (g := gb212) (o := .cells #[.int .i64 x213000_4, .slice none 0 0, .slice none 0 0, .slice none 0 0] 26 (0, 0)) (by (with_reducible repeat (first | refine blk_drewN ?_ _ | refine blk_drew ?_ | refine blk_alloc ?_ _)); exact BK212.out) hb); have n4_ := Aside0.mk (blk_below (g := gb216) (o := .cells #[.int .i64 (wrap64 (t213)), u217001, u217002, .slice none 0 0] 26 (0, 0)) (by (with_reducible repeat (first | refine blk_drewN ?_ _ | refine blk_drew ?_ | refine blk_alloc ?_ _)); exact BK216.out) hb); have n5_ := Aside0.mk (below_step (by repeat (first | (with_reducible first | exact HB.out | apply below_alloc | apply pw_below_drewN | apply below_drew1 | refine below_set ?_ GE212.out | refine below_set ?_ GE216.out) | exact HB.out)) hb); clear HO_217001; clear HO_217002; clear BK212; clear BK216; clear HB; have HO_217001 := n0_; have HO_217002 := n1_; have HO240 := n2_; have BK212 := n3_; have BK216 := n4_; have HB := n5_; clear n0_ n1_ n2_ n3_ n4_ n5_; (try clear hb); (try clear hb2); (try clear hk); (try clear hi); (try clear ho0); obtain ⟨Ao73, co73, eo73⟩ := Kd.R_slice HO240.out; subst eo73; have hnb74 := NB216_212.out; have hnc74 := NB212_216.out; have hcz75_0 : w72.cell? ⟨gb216, 0, none⟩ = some (.int .i64 (wrap64 (t213))) := (blk_cell BK216.out 0).trans rfl; have hcz75_1 : w72.cell? ⟨gb216, 1, none⟩ = some (u217001) := (blk_cell BK216.out 1).trans rfl; have hcz75_2 : w72.cell? ⟨gb216, 2, none⟩ = some (u217002) := (blk_cell BK216.out 2).trans rfl; have hcz75_3 : w72.cell? ⟨gb216, 3, none⟩ = some (.slice none 0 0) := (blk_cell BK216.out 3).trans rfl; have hfz75_0 := blk_frozen BK216.out 0; have hfz75_1 := blk_frozen BK216.out 1; have hfz75_2 := blk_frozen BK216.out 2; have hfz75_3 := blk_frozen BK216.out 3; obtain ⟨Ao76, co76, eo76⟩ := Kd.R_slice HO_217001.out; subst eo76; obtain ⟨Ao77, co77, eo77⟩ := Kd.R_slice HO_217002.out; subst eo77) | (go_at_call 15; (with_reducible refine (embrasureref05_Bytes.calls k4 (wrap64 (t213)) _ _ x217001_2 _ _ x217002_4 _ _ t236 t241 _ ?side1 ?side2 ?side3 ?side4 ?side5 ?side6 A68.out).mono ?_); (case side1 => refine (Kd.R_reads' (e := 39) (base := w.heap.size) (ok := fun k_ => True) (n := x217001_2.length) (c := co76) ?_).2.2; exact (by (with_reducible repeat (first | apply Kd.R_alloc | apply Kd.R_drewN | apply Kd.R_drew)); exact (Kd.R_mono (Kd.R_far (p := ⟨gb216, 3, none⟩) (Kd.R_types HO_217001.out BK216.out (by decide)) (fun _ hk => hk.2) (.slice Ao73 t236.length co73)) (fun _ h_ => h_.1)))); (case side2 => exact (Kd.R_reads' HO_217001.out).2.1); (case side3 => refine (Kd.R_reads' (e := 45) (base := w.heap.size) (ok := fun k_ => True) (n := x217002_4.length) (c := co77) ?_).2.2; exact (by (with_reducible repeat (first | apply Kd.R_alloc | apply Kd.R_drewN | apply Kd.R_drew)); exact (Kd.R_mono (Kd.R_far (p := ⟨gb216, 3, none⟩) (Kd.R_types HO_217002.out BK216.out (by decide)) (fun _ hk => hk.2) (.slice Ao73 t236.length co73)) (fun _ h_ => h_.1)))); (case side4 => exact (Kd.R_reads' HO_217002.out).2.1); (case side5 => refine (Kd.R_reads' (e := 5) (base := w.heap.size) (ok := fun k_ => True) (n := t236.length) (c := co73) ?_).2.2; exact (by (with_reducible repeat (first | apply Kd.R_alloc | apply Kd.R_drewN | apply Kd.R_drew)); exact (Kd.R_mono (Kd.R_far (p := ⟨gb216, 3, none⟩) (Kd.R_types HO240.out BK216.out (by decide)) (fun _ hk => hk.2) (.slice Ao73 t236.length co73)) (fun _ h_ => h_.1)))); (case side6 => exact (Kd.R_reads' HO240.out).2.1); rintro e w78 ⟨v242, rfl, ho0, hb⟩; have n0_ := Aside0.mk (Kd.R_below (by (with_reducible repeat (first | apply Kd.R_alloc | apply Kd.R_drewN | apply Kd.R_drew)); exact (Kd.R_mono (Kd.R_far (p := ⟨gb216, 3, none⟩) (Kd.R_types HO_217001.out BK216.out (by decide)) (fun _ hk => hk.2) (.slice Ao73 t236.length co73)) (fun _ h_ => h_.1))) hb); have n1_ := Aside0.mk (Kd.R_below (by (with_reducible repeat (first | apply Kd.R_alloc | apply Kd.R_drewN | apply Kd.R_drew)); exact (Kd.R_mono (Kd.R_far (p := ⟨gb216, 3, none⟩) (Kd.R_types HO_217002.out BK216.out (by decide)) (fun _ hk => hk.2) (.slice Ao73 t236.length co73)) (fun _ h_ => h_.1))) hb); have n2_ := Aside0.mk (Kd.R_elder' (by (with_reducible repeat (first | apply Kd.R_alloc | apply Kd.R_drewN | apply Kd.R_drew)); exact (Kd.R_mono (Kd.R_far (p := ⟨gb216, 3, none⟩) (Kd.R_types HO240.out BK216.out (by decide)) (fun _ hk => hk.2) (.slice Ao73 t236.length co73)) (fun _ h_ => h_.1))) (Kd.R_base ho0) hb); have n3_ := Aside0.mk (Kd.R_lower (Kd.R_new' ho0 (Kd.R_lt (by (with_reducible repeat (first | apply Kd.R_alloc | apply Kd.R_drewN | apply Kd.R_drew)); exact (Kd.R_mono (Kd.R_far (p := ⟨gb216, 3, none⟩) (Kd.R_types HO240.out BK216.out (by decide)) (fun _ hk => hk.2) (.slice Ao73 t236.length co73)) (fun _ h_ => h_.1))))) (below_size (by repeat (first | (with_reducible first | exact HB.out | apply below_alloc | apply pw_below_drewN | apply below_drew1 | refine below_set ?_ GE212.out | refine below_set ?_ GE216.out) | exact HB.out)))); have n4_ := Aside0.mk (blk_below (g := gb212) (o := .cells #[.int .i64 x213000_4, .slice none 0 0, .slice none 0 0, .slice none 0 0] 26 (0, 0)) (by (with_reducible repeat (first | refine blk_drewN ?_ _ | refine blk_drew ?_ | refine blk_alloc ?_ _)); refine blk_far ?_ NB212_216.out _; (with_reducible repeat (first | refine blk_drewN ?_ _ | refine blk_drew ?_ | refine blk_alloc ?_ _)); exact BK212.out) hb); have n5_ := Aside0.mk (blk_below (g := gb216) (o := .cells #[.int .i64 (wrap64 (t213)), .slice Ao76 x217001_2.length co76, .slice Ao77 x217002_4.length co77, .slice Ao73 t236.length co73] 26 (0, 0)) (by (with_reducible repeat (first | refine blk_drewN ?_ _ | refine blk_drew ?_ | refine blk_alloc ?_ _)); refine blk_put (cs := #[.int .i64 (wrap64 (t213)), .slice Ao76 x217001_2.length co76, .slice Ao77 x217002_4.length co77, .slice none 0 0]) ?_ 3 _ rfl; (with_reducible repeat (first | refine blk_drewN ?_ _ | refine blk_drew ?_ | refine blk_alloc ?_ _)); exact BK216.out) hb); have n6_ := Aside0.mk (below_step (by repeat (first | (with_reducible first | exact HB.out | apply below_alloc | apply pw_below_drewN | apply below_drew1 | refine below_set ?_ GE212.out | refine below_set ?_ GE216.out) | exact HB.out)) hb); clear HO_217001; clear HO_217002; clear HO240; clear BK212; clear BK216; clear HB; have HO_217001 := n0_; have HO_217002 := n1_; have HO240 := n2_; have HO243 := n3_; have BK212 := n4_; have BK216 := n5_; have HB := n6_; clear n0_ n1_ n2_ n3_ n4_ n5_ n6_; (try clear hb); (try clear hb2); (try clear hk); (try clear hi); (try clear ho0); obtain ⟨Ao79, co79, eo79⟩ := Kd.R_slice HO243.out; subst eo79) | (go_at_call 14; (with_reducible refine (embrasureref01_Same.calls _ _ t241 _ _ l0 true _ ?side1 ?side2 ?side3 ?side4 A69.out).mono ?_); (case side1 => repeat (first | exact (Kd.R_reads' HO243.out).2.2 | (with_reducible refine Kd.C_alloc ?_ _) | (with_reducible refine Kd.C_drewN ?_ _) | (with_reducible refine Kd.C_drew ?_))); (case side2 => exact (Kd.R_reads' HO243.out).2.1); (case side3 => repeat (first | exact (Kd.C_below HR0.out HB.out) | (with_reducible refine Kd.C_alloc ?_ _) | (with_reducible refine Kd.C_drewN ?_ _) | (with_reducible refine Kd.C_drew ?_))); (case side4 => exact HC0.out); rintro e w80 ⟨rfl, hb⟩; have n0_ := Aside0.mk (Kd.R_below (by (with_reducible repeat (first | apply Kd.R_alloc | apply Kd.R_drewN | apply Kd.R_drew)); exact HO_217001.out) hb); have n1_ := Aside0.mk (Kd.R_below (by (with_reducible repeat (first | apply Kd.R_alloc | apply Kd.R_drewN | apply Kd.R_drew)); exact HO_217002.out) hb); have n2_ := Aside0.mk (Kd.R_below (by (with_reducible repeat (first | apply Kd.R_alloc | apply Kd.R_drewN | apply Kd.R_drew)); exact HO240.out) hb); have n3_ := Aside0.mk (Kd.R_below (by (with_reducible repeat (first | apply Kd.R_alloc | apply Kd.R_drewN | apply Kd.R_drew)); exact HO243.out) hb); have n4_ := Aside0.mk (blk_below (g := gb212) (o := .cells #[.int .i64 x213000_4, .slice none 0 0, .slice none 0 0, .slice none 0 0] 26 (0, 0)) (by (with_reducible repeat (first | refine blk_drewN ?_ _ | refine blk_drew ?_ | refine blk_alloc ?_ _)); exact BK212.out) hb); have n5_ := Aside0.mk (blk_below (g := gb216) (o := .cells #[.int .i64 (wrap64 (t213)), .slice Ao76 x217001_2.length co76, .slice Ao77 x217002_4.length co77, .slice Ao73 t236.length co73] 26 (0, 0)) (by (with_reducible repeat (first | refine blk_drewN ?_ _ | refine blk_drew ?_ | refine blk_alloc ?_ _)); exact BK216.out) hb); have n6_ := Aside0.mk (below_step (by repeat (first | (with_reducible first | exact HB.out | apply below_alloc | apply pw_below_drewN | apply below_drew1 | refine below_set ?_ GE212.out | refine below_set ?_ GE216.out) | exact HB.out)) hb); clear HO_217001; clear HO_217002; clear HO240; clear HO243; clear BK212; clear BK216; clear HB; have HO_217001 := n0_; have HO_217002 := n1_; have HO240 := n2_; have HO243 := n3_; have BK212 := n4_; have BK216 := n5_; have HB := n6_; clear n0_ n1_ n2_ n3_ n4_ n5_ n6_; (try clear hb); (try clear hb2); (try clear hk); (try clear hi); have hcz81_0 : w80.cell? ⟨gb216, 0, none⟩ = some (.int .i64 (wrap64 (t213))) := (blk_cell BK216.out 0).trans rfl; have hcz81_1 : w80.cell? ⟨gb216, 1, none⟩ = some (.slice Ao76 x217001_2.length co76) := (blk_cell BK216.out 1).trans rfl; have hcz81_2 : w80.cell? ⟨gb216, 2, none⟩ = some (.slice Ao77 x217002_4.length co77) := (blk_cell BK216.out 2).trans rfl; have hcz81_3 : w80.cell? ⟨gb216, 3, none⟩ = some (.slice Ao73 t236.length co73) := (blk_cell BK216.out 3).trans rfl; have hfz81_0 := blk_frozen BK216.out 0; have hfz81_1 := blk_frozen BK216.out 1; have hfz81_2 := blk_frozen BK216.out 2; have hfz81_3 := blk_frozen BK216.out 3; have hcz82_0 : w80.cell? ⟨gb212, 0, none⟩ = some (.int .i64 x213000_4) := (blk_cell BK212.out 0).trans rfl; have hcz82_1 : w80.cell? ⟨gb212, 1, none⟩ = some (.slice none 0 0) := (blk_cell BK212.out 1).trans rfl; have hcz82_2 : w80.cell? ⟨gb212, 2, none⟩ = some (.slice none 0 0) := (blk_cell BK212.out 2).trans rfl; have hcz82_3 : w80.cell? ⟨gb212, 3, none⟩ = some (.slice none 0 0) := (blk_cell BK212.out 3).trans rfl; have hfz82_0 := blk_frozen BK212.out 0; have hfz82_1 := blk_frozen BK212.out 1; have hfz82_2 := blk_frozen BK212.out 2; have hfz82_3 := blk_frozen BK212.out 3))
                                      refine bodyPost_ret (results_ct rfl _ _ gb212 26 #[.int .i64 (wrap64 (t213)), .slice Ao76 x217001_2.length co76, .slice Ao77 x217002_4.length co77, .slice Ao73 t236.length co73] (0, 0) _ rfl (by (with_reducible repeat (first | refine blk_drewN ?_ _ | refine blk_drew ?_ | refine blk_alloc ?_ _)); refine blk_put (cs := #[.int .i64 (wrap64 (t213)), .slice Ao76 x217001_2.length co76, .slice Ao77 x217002_4.length co77, .slice none 0 0]) ?_ 3 _ rfl; (with_reducible repeat (first | refine blk_drewN ?_ _ | refine blk_drew ?_ | refine blk_alloc ?_ _)); refine blk_put (cs := #[.int .i64 (wrap64 (t213)), .slice Ao76 x217001_2.length co76, .slice none 0 0, .slice none 0 0]) ?_ 2 _ rfl; (with_reducible repeat (first | refine blk_drewN ?_ _ | refine blk_drew ?_ | refine blk_alloc ?_ _)); refine blk_put (cs := #[.int .i64 (wrap64 (t213)), .slice none 0 0, .slice none 0 0, .slice none 0 0]) ?_ 1 _ rfl; (with_reducible repeat (first | refine blk_drewN ?_ _ | refine blk_drew ?_ | refine blk_alloc ?_ _)); refine blk_put (cs := #[.int .i64 x213000_4, .slice none 0 0, .slice none 0 0, .slice none 0 0]) ?_ 0 _ rfl; (with_reducible repeat (first | refine blk_drewN ?_ _ | refine blk_drew ?_ | refine blk_alloc ?_ _)); exact BK212.out) Try.underlying26 rfl (by kernel_rfl)) rfl ?_
                                      exact ⟨_, _, _, by first | rfl | (simp [errW_none, errW_some] <;> rfl) | (simp [*, errW_none, errW_some] <;> rfl), by (with_reducible repeat (first | apply Kd.R_alloc | apply Kd.R_drewN | apply Kd.R_drew)); exact Kd.R_mono (Kd.R_far (p := ⟨gb212, 3, none⟩) (Kd.R_far (p := ⟨gb212, 2, none⟩) (Kd.R_far (p := ⟨gb212, 1, none⟩) (Kd.R_far (p := ⟨gb212, 0, none⟩) (Kd.R_types HO_217001.out BK212.out (by decide)) (fun _ hk => hk.2) (.int .i64 (wrap64 (t213)))) (fun _ hk => hk.2) (.slice Ao76 x217001_2.length co76)) (fun _ hk => hk.2) (.slice Ao77 x217002_4.length co77)) (fun _ hk => hk.2) (.slice Ao73 t236.length co73)) (fun _ hk => trivial), by (with_reducible repeat (first | apply Kd.R_alloc | apply Kd.R_drewN | apply Kd.R_drew)); exact Kd.R_mono (Kd.R_far (p := ⟨gb212, 3, none⟩) (Kd.R_far (p := ⟨gb212, 2, none⟩) (Kd.R_far (p := ⟨gb212, 1, none⟩) (Kd.R_far (p := ⟨gb212, 0, none⟩) (Kd.R_types HO_217002.out BK212.out (by decide)) (fun _ hk => hk.2) (.int .i64 (wrap64 (t213)))) (fun _ hk => hk.2) (.slice Ao76 x217001_2.length co76)) (fun _ hk => hk.2) (.slice Ao77 x217002_4.length co77)) (fun _ hk => hk.2) (.slice Ao73 t236.length co73)) (fun _ hk => trivial), by (with_reducible repeat (first | apply Kd.R_alloc | apply Kd.R_drewN | apply Kd.R_drew)); exact Kd.R_mono (Kd.R_far (p := ⟨gb212, 3, none⟩) (Kd.R_far (p := ⟨gb212, 2, none⟩) (Kd.R_far (p := ⟨gb212, 1, none⟩) (Kd.R_far (p := ⟨gb212, 0, none⟩) (Kd.R_types HO240.out BK212.out (by decide)) (fun _ hk => hk.2) (.int .i64 (wrap64 (t213)))) (fun _ hk => hk.2) (.slice Ao76 x217001_2.length co76)) (fun _ hk => hk.2) (.slice Ao77 x217002_4.length co77)) (fun _ hk => hk.2) (.slice Ao73 t236.length co73)) (fun _ hk => trivial), by repeat (first | (with_reducible first | exact HB.out | apply below_alloc | apply pw_below_drewN | apply below_drew1 | refine below_set ?_ GE212.out | refine below_set ?_ GE216.out) | exact HB.out)⟩
                                    · replace c70 := Bool.eq_false_iff.mpr c70
                                      subst c70
                                      have H1 : (some (0, ([] : List Int), ([] : List (S45)), ([] : List Int), 3)) = some (r1, r2, r3, r4, r5) := by rw [if_neg (show ¬ (false = true) by decide)] at H; exact H
                                      clear H
                                      have H := H1
                                      clear H1
                                      simp only [Option.some.injEq, Prod.mk.injEq] at H
                                      obtain ⟨rfl, rfl, rfl, rfl, rfl⟩ := H
                                      obtain ⟨i083, hi083, _, hsz83, _⟩ := info_parts info5
                                      obtain ⟨A83, hcut83, hA83, hC83⟩ := print_drop_of (P := Try.prog) (Value.int .u8) 0 24 5 .i64 Try.underlying24 hi083 hsz83 (some ad226) c0 l0 x5_4 (of_decide_eq_true (by first | (with_reducible assumption) | assumption)) (of_decide_eq_true (by first | (with_reducible assumption) | assumption)) HC0.out
                                      have HR235 := Aside0.mk (Kd.C_of_reads (h1 := fun _ => rfl) (hA83 _ (Kd.reads_of_C HR0.out)))
                                      have HC235 := Aside0.mk hC83
                                      clear hA83 hC83 hi083 hsz83
                                      go_wp2_with (first | ((with_reducible refine gate_callee (f := 40) rfl ?_); refine goesL_ (some 117) rfl rfl Try.func40 (by kernel_rfl) rfl #[.slice A83 (l0.drop (x5_4 : Int).toNat).length (c0 - x5_4.toNat)] rfl (by (try simp only [List.map_toArray, List.map_cons, List.map_nil]); first | done | (rw [show (l0.drop (x5_4 : Int).toNat).length = (l0.length - x5_4.toNat) from List.length_drop] <;> rfl) | rfl | (simp only [List.length_drop, List.length_take]; rfl)) ?_; (with_reducible refine (embrasureref02_Get.calls _ _ (l0.drop (x5_4 : Int).toNat) t236 t237 t238 _ ?side1 ?side2 A66.out).mono ?_); (case side1 => repeat (first | exact (Kd.C_below HR235.out HB.out) | (with_reducible refine Kd.C_alloc ?_ _) | (with_reducible refine Kd.C_drewN ?_ _) | (with_reducible refine Kd.C_drew ?_))); (case side2 => exact HC235.out); rintro e w84 ⟨v239, rfl, ho0, hb⟩; refine ⟨_, rfl, ?_⟩; have n0_ := Aside0.mk (Kd.R_below (by (with_reducible repeat (first | apply Kd.R_alloc | apply Kd.R_drewN | apply Kd.R_drew)); exact HO_217001.out) hb); have n1_ := Aside0.mk (Kd.R_below (by (with_reducible repeat (first | apply Kd.R_alloc | apply Kd.R_drewN | apply Kd.R_drew)); exact HO_217002.out) hb); have n2_ := Aside0.mk (Kd.R_lower ho0 (below_size (by repeat (first | (with_reducible first | exact HB.out | apply below_alloc | apply pw_below_drewN | apply below_drew1 | refine below_set ?_ GE212.out | refine below_set ?_ GE216.out) | exact HB.out)))); have n3_ := Aside0.mk (blk_below (g := gb212) (o := .cells #[.int .i64 x213000_4, .slice none 0 0, .slice none 0 0, .slice none 0 0] 26 (0, 0)) (by (with_reducible repeat (first | refine blk_drewN ?_ _ | refine blk_drew ?_ | refine blk_alloc ?_ _)); exact BK212.out) hb); have n4_ := Aside0.mk (blk_below (g := gb216) (o := .cells #[.int .i64 (wrap64 (t213)), u217001, u217002, .slice none 0 0] 26 (0, 0)) (by (with_reducible repeat (first | refine blk_drewN ?_ _ | refine blk_drew ?_ | refine blk_alloc ?_ _)); exact BK216.out) hb); have n5_ := Aside0.mk (below_step (by repeat (first | (with_reducible first | exact HB.out | apply below_alloc | apply pw_below_drewN | apply below_drew1 | refine below_set ?_ GE212.out | refine below_set ?_ GE216.out) | exact HB.out)) hb); clear HO_217001; clear HO_217002; clear BK212; clear BK216; clear HB; have HO_217001 := n0_; have HO_217002 := n1_; have HO240 := n2_; have BK212 := n3_; have BK216 := n4_; have HB := n5_; clear n0_ n1_ n2_ n3_ n4_ n5_; (try clear hb); (try clear hb2); (try clear hk); (try clear hi); (try clear ho0); obtain ⟨Ao85, co85, eo85⟩ := Kd.R_slice HO240.out; subst eo85; have hnb86 := NB216_212.out; have hnc86 := NB212_216.out; have hcz87_0 : w84.cell? ⟨gb216, 0, none⟩ = some (.int .i64 (wrap64 (t213))) := (blk_cell BK216.out 0).trans rfl; have hcz87_1 : w84.cell? ⟨gb216, 1, none⟩ = some (u217001) := (blk_cell BK216.out 1).trans rfl; have hcz87_2 : w84.cell? ⟨gb216, 2, none⟩ = some (u217002) := (blk_cell BK216.out 2).trans rfl; have hcz87_3 : w84.cell? ⟨gb216, 3, none⟩ = some (.slice none 0 0) := (blk_cell BK216.out 3).trans rfl; have hfz87_0 := blk_frozen BK216.out 0; have hfz87_1 := blk_frozen BK216.out 1; have hfz87_2 := blk_frozen BK216.out 2; have hfz87_3 := blk_frozen BK216.out 3; obtain ⟨Ao88, co88, eo88⟩ := Kd.R_slice HO_217001.out; subst eo88; obtain ⟨Ao89, co89, eo89⟩ := Kd.R_slice HO_217002.out; subst eo89) | (go_at_call 15; (with_reducible refine (embrasureref05_Bytes.calls k4 (wrap64 (t213)) _ _ x217001_2 _ _ x217002_4 _ _ t236 t241 _ ?side1 ?side2 ?side3 ?side4 ?side5 ?side6 A68.out).mono ?_); (case side1 => refine (Kd.R_reads' (e := 39) (base := w.heap.size) (ok := fun k_ => True) (n := x217001_2.length) (c := co88) ?_).2.2; exact (by (with_reducible repeat (first | apply Kd.R_alloc | apply Kd.R_drewN | apply Kd.R_drew)); exact (Kd.R_mono (Kd.R_far (p := ⟨gb216, 3, none⟩) (Kd.R_types HO_217001.out BK216.out (by decide)) (fun _ hk => hk.2) (.slice Ao85 t236.length co85)) (fun _ h_ => h_.1)))); (case side2 => exact (Kd.R_reads' HO_217001.out).2.1); (case side3 => refine (Kd.R_reads' (e := 45) (base := w.heap.size) (ok := fun k_ => True) (n := x217002_4.length) (c := co89) ?_).2.2; exact (by (with_reducible repeat (first | apply Kd.R_alloc | apply Kd.R_drewN | apply Kd.R_drew)); exact (Kd.R_mono (Kd.R_far (p := ⟨gb216, 3, none⟩) (Kd.R_types HO_217002.out BK216.out (by decide)) (fun _ hk => hk.2) (.slice Ao85 t236.length co85)) (fun _ h_ => h_.1)))); (case side4 => exact (Kd.R_reads' HO_217002.out).2.1); (case side5 => refine (Kd.R_reads' (e := 5) (base := w.heap.size) (ok := fun k_ => True) (n := t236.length) (c := co85) ?_).2.2; exact (by (with_reducible repeat (first | apply Kd.R_alloc | apply Kd.R_drewN | apply Kd.R_drew)); exact (Kd.R_mono (Kd.R_far (p := ⟨gb216, 3, none⟩) (Kd.R_types HO240.out BK216.out (by decide)) (fun _ hk => hk.2) (.slice Ao85 t236.length co85)) (fun _ h_ => h_.1)))); (case side6 => exact (Kd.R_reads' HO240.out).2.1); rintro e w90 ⟨v242, rfl, ho0, hb⟩; have n0_ := Aside0.mk (Kd.R_below (by (with_reducible repeat (first | apply Kd.R_alloc | apply Kd.R_drewN | apply Kd.R_drew)); exact (Kd.R_mono (Kd.R_far (p := ⟨gb216, 3, none⟩) (Kd.R_types HO_217001.out BK216.out (by decide)) (fun _ hk => hk.2) (.slice Ao85 t236.length co85)) (fun _ h_ => h_.1))) hb); have n1_ := Aside0.mk (Kd.R_below (by (with_reducible repeat (first | apply Kd.R_alloc | apply Kd.R_drewN | apply Kd.R_drew)); exact (Kd.R_mono (Kd.R_far (p := ⟨gb216, 3, none⟩) (Kd.R_types HO_217002.out BK216.out (by decide)) (fun _ hk => hk.2) (.slice Ao85 t236.length co85)) (fun _ h_ => h_.1))) hb); have n2_ := Aside0.mk (Kd.R_elder' (by (with_reducible repeat (first | apply Kd.R_alloc | apply Kd.R_drewN | apply Kd.R_drew)); exact (Kd.R_mono (Kd.R_far (p := ⟨gb216, 3, none⟩) (Kd.R_types HO240.out BK216.out (by decide)) (fun _ hk => hk.2) (.slice Ao85 t236.length co85)) (fun _ h_ => h_.1))) (Kd.R_base ho0) hb); have n3_ := Aside0.mk (Kd.R_lower (Kd.R_new' ho0 (Kd.R_lt (by (with_reducible repeat (first | apply Kd.R_alloc | apply Kd.R_drewN | apply Kd.R_drew)); exact (Kd.R_mono (Kd.R_far (p := ⟨gb216, 3, none⟩) (Kd.R_types HO240.out BK216.out (by decide)) (fun _ hk => hk.2) (.slice Ao85 t236.length co85)) (fun _ h_ => h_.1))))) (below_size (by repeat (first | (with_reducible first | exact HB.out | apply below_alloc | apply pw_below_drewN | apply below_drew1 | refine below_set ?_ GE212.out | refine below_set ?_ GE216.out) | exact HB.out)))); have n4_ := Aside0.mk (blk_below (g := gb212) (o := .cells #[.int .i64 x213000_4, .slice none 0 0, .slice none 0 0, .slice none 0 0] 26 (0, 0)) (by (with_reducible repeat (first | refine blk_drewN ?_ _ | refine blk_drew ?_ | refine blk_alloc ?_ _)); refine blk_far ?_ NB212_216.out _; (with_reducible repeat (first | refine blk_drewN ?_ _ | refine blk_drew ?_ | refine blk_alloc ?_ _)); exact BK212.out) hb); have n5_ := Aside0.mk (blk_below (g := gb216) (o := .cells #[.int .i64 (wrap64 (t213)), .slice Ao88 x217001_2.length co88, .slice Ao89 x217002_4.length co89, .slice Ao85 t236.length co85] 26 (0, 0)) (by (with_reducible repeat (first | refine blk_drewN ?_ _ | refine blk_drew ?_ | refine blk_alloc ?_ _)); refine blk_put (cs := #[.int .i64 (wrap64 (t213)), .slice Ao88 x217001_2.length co88, .slice Ao89 x217002_4.length co89, .slice none 0 0]) ?_ 3 _ rfl; (with_reducible repeat (first | refine blk_drewN ?_ _ | refine blk_drew ?_ | refine blk_alloc ?_ _)); exact BK216.out) hb); have n6_ := Aside0.mk (below_step (by repeat (first | (with_reducible first | exact HB.out | apply below_alloc | apply pw_below_drewN | apply below_drew1 | refine below_set ?_ GE212.out | refine below_set ?_ GE216.out) | exact HB.out)) hb); clear HO_217001; clear HO_217002; clear HO240; clear BK212; clear BK216; clear HB; have HO_217001 := n0_; have HO_217002 := n1_; have HO240 := n2_; have HO243 := n3_; have BK212 := n4_; have BK216 := n5_; have HB := n6_; clear n0_ n1_ n2_ n3_ n4_ n5_ n6_; (try clear hb); (try clear hb2); (try clear hk); (try clear hi); (try clear ho0); obtain ⟨Ao91, co91, eo91⟩ := Kd.R_slice HO243.out; subst eo91) | (go_at_call 14; (with_reducible refine (embrasureref01_Same.calls _ _ t241 _ _ l0 false _ ?side1 ?side2 ?side3 ?side4 A69.out).mono ?_); (case side1 => repeat (first | exact (Kd.R_reads' HO243.out).2.2 | (with_reducible refine Kd.C_alloc ?_ _) | (with_reducible refine Kd.C_drewN ?_ _) | (with_reducible refine Kd.C_drew ?_))); (case side2 => exact (Kd.R_reads' HO243.out).2.1); (case side3 => repeat (first | exact (Kd.C_below HR0.out HB.out) | (with_reducible refine Kd.C_alloc ?_ _) | (with_reducible refine Kd.C_drewN ?_ _) | (with_reducible refine Kd.C_drew ?_))); (case side4 => exact HC0.out); rintro e w92 ⟨rfl, hb⟩; have n0_ := Aside0.mk (Kd.R_below (by (with_reducible repeat (first | apply Kd.R_alloc | apply Kd.R_drewN | apply Kd.R_drew)); exact HO_217001.out) hb); have n1_ := Aside0.mk (Kd.R_below (by (with_reducible repeat (first | apply Kd.R_alloc | apply Kd.R_drewN | apply Kd.R_drew)); exact HO_217002.out) hb); have n2_ := Aside0.mk (Kd.R_below (by (with_reducible repeat (first | apply Kd.R_alloc | apply Kd.R_drewN | apply Kd.R_drew)); exact HO240.out) hb); have n3_ := Aside0.mk (Kd.R_below (by (with_reducible repeat (first | apply Kd.R_alloc | apply Kd.R_drewN | apply Kd.R_drew)); exact HO243.out) hb); have n4_ := Aside0.mk (blk_below (g := gb212) (o := .cells #[.int .i64 x213000_4, .slice none 0 0, .slice none 0 0, .slice none 0 0] 26 (0, 0)) (by (with_reducible repeat (first | refine blk_drewN ?_ _ | refine blk_drew ?_ | refine blk_alloc ?_ _)); exact BK212.out) hb); have n5_ := Aside0.mk (blk_below (g := gb216) (o := .cells #[.int .i64 (wrap64 (t213)), .slice Ao88 x217001_2.length co88, .slice Ao89 x217002_4.length co89, .slice Ao85 t236.length co85] 26 (0, 0)) (by (with_reducible repeat (first | refine blk_drewN ?_ _ | refine blk_drew ?_ | refine blk_alloc ?_ _)); exact BK216.out) hb); have n6_ := Aside0.mk (below_step (by repeat (first | (with_reducible first | exact HB.out | apply below_alloc | apply pw_below_drewN | apply below_drew1 | refine below_set ?_ GE212.out | refine below_set ?_ GE216.out) | exact HB.out)) hb); clear HO_217001; clear HO_217002; clear HO240; clear HO243; clear BK212; clear BK216; clear HB; have HO_217001 := n0_; have HO_217002 := n1_; have HO240 := n2_; have HO243 := n3_; have BK212 := n4_; have BK216 := n5_; have HB := n6_; clear n0_ n1_ n2_ n3_ n4_ n5_ n6_; (try clear hb); (try clear hb2); (try clear hk); (try clear hi); have hcz93_0 : w92.cell? ⟨gb212, 0, none⟩ = some (.int .i64 x213000_4) := (blk_cell BK212.out 0).trans rfl; have hcz93_1 : w92.cell? ⟨gb212, 1, none⟩ = some (.slice none 0 0) := (blk_cell BK212.out 1).trans rfl; have hcz93_2 : w92.cell? ⟨gb212, 2, none⟩ = some (.slice none 0 0) := (blk_cell BK212.out 2).trans rfl; have hcz93_3 : w92.cell? ⟨gb212, 3, none⟩ = some (.slice none 0 0) := (blk_cell BK212.out 3).trans rfl; have hfz93_0 := blk_frozen BK212.out 0; have hfz93_1 := blk_frozen BK212.out 1; have hfz93_2 := blk_frozen BK212.out 2; have hfz93_3 := blk_frozen BK212.out 3))
                                      refine bodyPost_ret (results_ct rfl _ _ gb212 26 #[.int .i64 0, .slice none 0 0, .slice none 0 0, .slice none 0 0] (0, 0) _ rfl (by (with_reducible repeat (first | refine blk_drewN ?_ _ | refine blk_drew ?_ | refine blk_alloc ?_ _)); refine blk_put (cs := #[.int .i64 0, .slice none 0 0, .slice none 0 0, .slice none 0 0]) ?_ 3 _ rfl; (with_reducible repeat (first | refine blk_drewN ?_ _ | refine blk_drew ?_ | refine blk_alloc ?_ _)); refine blk_put (cs := #[.int .i64 0, .slice none 0 0, .slice none 0 0, .slice none 0 0]) ?_ 2 _ rfl; (with_reducible repeat (first | refine blk_drewN ?_ _ | refine blk_drew ?_ | refine blk_alloc ?_ _)); refine blk_put (cs := #[.int .i64 0, .slice none 0 0, .slice none 0 0, .slice none 0 0]) ?_ 1 _ rfl; (with_reducible repeat (first | refine blk_drewN ?_ _ | refine blk_drew ?_ | refine blk_alloc ?_ _)); refine blk_put (cs := #[.int .i64 x213000_4, .slice none 0 0, .slice none 0 0, .slice none 0 0]) ?_ 0 _ rfl; (with_reducible repeat (first | refine blk_drewN ?_ _ | refine blk_drew ?_ | refine blk_alloc ?_ _)); exact BK212.out) Try.underlying26 rfl (by kernel_rfl)) rfl ?_
                                      exact ⟨_, _, _, by first | rfl | (simp [errW_none, errW_some] <;> rfl) | (simp [*, errW_none, errW_some] <;> rfl), by first | exact Kd.R_nil _ _ _ _ _ | exact Kd.N_nil _ _ _ _ _ | exact Kd.V_nil _ _ _ _ _ | exact Kd.Q_nil _ _ _ _ _ | exact Kd.S_nil _ _ _ _ _, by first | exact Kd.R_nil _ _ _ _ _ | exact Kd.N_nil _ _ _ _ _ | exact Kd.V_nil _ _ _ _ _ | exact Kd.Q_nil _ _ _ _ _ | exact Kd.S_nil _ _ _ _ _, by first | exact Kd.R_nil _ _ _ _ _ | exact Kd.N_nil _ _ _ _ _ | exact Kd.V_nil _ _ _ _ _ | exact Kd.Q_nil _ _ _ _ _ | exact Kd.S_nil _ _ _ _ _, by repeat (first | (with_reducible first | exact HB.out | apply below_alloc | apply pw_below_drewN | apply below_drew1 | refine below_set ?_ GE212.out | refine below_set ?_ GE216.out) | exact HB.out)⟩
                                  · rw [if_neg c67] at H
                                    have c67b0 : (t238 == 0) = false := beq_eq_false_iff_ne.mpr c67
                                    have c67b1 : (t238 != 0) = true := bne_iff_ne.mpr c67
                                    simp only [Option.some.injEq, Prod.mk.injEq] at H
                                    obtain ⟨rfl, rfl, rfl, rfl, rfl⟩ := H
                                    obtain ⟨i094, hi094, _, hsz94, _⟩ := info_parts info5
                                    obtain ⟨A94, hcut94, hA94, hC94⟩ := print_drop_of (P := Try.prog) (Value.int .u8) 0 24 5 .i64 Try.underlying24 hi094 hsz94 (some ad226) c0 l0 x5_4 (of_decide_eq_true (by first | (with_reducible assumption) | assumption)) (of_decide_eq_true (by first | (with_reducible assumption) | assumption)) HC0.out
                                    have HR235 := Aside0.mk (Kd.C_of_reads (h1 := fun _ => rfl) (hA94 _ (Kd.reads_of_C HR0.out)))
                                    have HC235 := Aside0.mk hC94
                                    clear hA94 hC94 hi094 hsz94
                                    go_wp2_with (first | ((with_reducible refine gate_callee (f := 40) rfl ?_); refine goesL_ (some 117) rfl rfl Try.func40 (by kernel_rfl) rfl #[.slice A94 (l0.drop (x5_4 : Int).toNat).length (c0 - x5_4.toNat)] rfl (by (try simp only [List.map_toArray, List.map_cons, List.map_nil]); first | done | (rw [show (l0.drop (x5_4 : Int).toNat).length = (l0.length - x5_4.toNat) from List.length_drop] <;> rfl) | rfl | (simp only [List.length_drop, List.length_take]; rfl)) ?_; (with_reducible refine (embrasureref02_Get.calls _ _ (l0.drop (x5_4 : Int).toNat) t236 t237 t238 _ ?side1 ?side2 A66.out).mono ?_); (case side1 => repeat (first | exact (Kd.C_below HR235.out HB.out) | (with_reducible refine Kd.C_alloc ?_ _) | (with_reducible refine Kd.C_drewN ?_ _) | (with_reducible refine Kd.C_drew ?_))); (case side2 => exact HC235.out); rintro e w95 ⟨v239, rfl, ho0, hb⟩; refine ⟨_, rfl, ?_⟩; have n0_ := Aside0.mk (Kd.R_below (by (with_reducible repeat (first | apply Kd.R_alloc | apply Kd.R_drewN | apply Kd.R_drew)); exact HO_217001.out) hb); have n1_ := Aside0.mk (Kd.R_below (by (with_reducible repeat (first | apply Kd.R_alloc | apply Kd.R_drewN | apply Kd.R_drew)); exact HO_217002.out) hb); have n2_ := Aside0.mk (Kd.R_lower ho0 (below_size (by repeat (first | (with_reducible first | exact HB.out | apply below_alloc | apply pw_below_drewN | apply below_drew1 | refine below_set ?_ GE212.out | refine below_set ?_ GE216.out) | exact HB.out)))); have n3_ := Aside0.mk (blk_below (g := gb212) (o := .cells #[.int .i64 x213000_4, .slice none 0 0, .slice none 0 0, .slice none 0 0] 26 (0, 0)) (by (with_reducible repeat (first | refine blk_drewN ?_ _ | refine blk_drew ?_ | refine blk_alloc ?_ _)); exact BK212.out) hb); have n4_ := Aside0.mk (blk_below (g := gb216) (o := .cells #[.int .i64 (wrap64 (t213)), u217001, u217002, .slice none 0 0] 26 (0, 0)) (by (with_reducible repeat (first | refine blk_drewN ?_ _ | refine blk_drew ?_ | refine blk_alloc ?_ _)); exact BK216.out) hb); have n5_ := Aside0.mk (below_step (by repeat (first | (with_reducible first | exact HB.out | apply below_alloc | apply pw_below_drewN | apply below_drew1 | refine below_set ?_ GE212.out | refine below_set ?_ GE216.out) | exact HB.out)) hb); clear HO_217001; clear HO_217002; clear BK212; clear BK216; clear HB; have HO_217001 := n0_; have HO_217002 := n1_; have HO240 := n2_; have BK212 := n3_; have BK216 := n4_; have HB := n5_; clear n0_ n1_ n2_ n3_ n4_ n5_; (try clear hb); (try clear hb2); (try clear hk); (try clear hi); (try clear ho0); obtain ⟨Ao96, co96, eo96⟩ := Kd.R_slice HO240.out; subst eo96; have hnb97 := NB216_212.out; have hnc97 := NB212_216.out; have hcz98_0 : w95.cell? ⟨gb216, 0, none⟩ = some (.int .i64 (wrap64 (t213))) := (blk_cell BK216.out 0).trans rfl; have hcz98_1 : w95.cell? ⟨gb216, 1, none⟩ = some (u217001) := (blk_cell BK216.out 1).trans rfl; have hcz98_2 : w95.cell? ⟨gb216, 2, none⟩ = some (u217002) := (blk_cell BK216.out 2).trans rfl; have hcz98_3 : w95.cell? ⟨gb216, 3, none⟩ = some (.slice none 0 0) := (blk_cell BK216.out 3).trans rfl; have hfz98_0 := blk_frozen BK216.out 0; have hfz98_1 := blk_frozen BK216.out 1; have hfz98_2 := blk_frozen BK216.out 2; have hfz98_3 := blk_frozen BK216.out 3; have hcz99_0 : w95.cell? ⟨gb212, 0, none⟩ = some (.int .i64 x213000_4) := (blk_cell BK212.out 0).trans rfl; have hcz99_1 : w95.cell? ⟨gb212, 1, none⟩ = some (.slice none 0 0) := (blk_cell BK212.out 1).trans rfl; have hcz99_2 : w95.cell? ⟨gb212, 2, none⟩ = some (.slice none 0 0) := (blk_cell BK212.out 2).trans rfl; have hcz99_3 : w95.cell? ⟨gb212, 3, none⟩ = some (.slice none 0 0) := (blk_cell BK212.out 3).trans rfl; have hfz99_0 := blk_frozen BK212.out 0; have hfz99_1 := blk_frozen BK212.out 1; have hfz99_2 := blk_frozen BK212.out 2; have hfz99_3 := blk_frozen BK212.out 3))
                                    refine bodyPost_ret (results_ct rfl _ _ gb212 26 #[.int .i64 0, .slice none 0 0, .slice none 0 0, .slice none 0 0] (0, 0) _ rfl (by (with_reducible repeat (first | refine blk_drewN ?_ _ | refine blk_drew ?_ | refine blk_alloc ?_ _)); refine blk_put (cs := #[.int .i64 0, .slice none 0 0, .slice none 0 0, .slice none 0 0]) ?_ 3 _ rfl; (with_reducible repeat (first | refine blk_drewN ?_ _ | refine blk_drew ?_ | refine blk_alloc ?_ _)); refine blk_put (cs := #[.int .i64 0, .slice none 0 0, .slice none 0 0, .slice none 0 0]) ?_ 2 _ rfl; (with_reducible repeat (first | refine blk_drewN ?_ _ | refine blk_drew ?_ | refine blk_alloc ?_ _)); refine blk_put (cs := #[.int .i64 0, .slice none 0 0, .slice none 0 0, .slice none 0 0]) ?_ 1 _ rfl; (with_reducible repeat (first | refine blk_drewN ?_ _ | refine blk_drew ?_ | refine blk_alloc ?_ _)); refine blk_put (cs := #[.int .i64 x213000_4, .slice none 0 0, .slice none 0 0, .slice none 0 0]) ?_ 0 _ rfl; (with_reducible repeat (first | refine blk_drewN ?_ _ | refine blk_drew ?_ | refine blk_alloc ?_ _)); refine blk_far ?_ NB212_216.out _; (with_reducible repeat (first | refine blk_drewN ?_ _ | refine blk_drew ?_ | refine blk_alloc ?_ _)); exact BK212.out) Try.underlying26 rfl (by kernel_rfl)) rfl ?_
                                    exact ⟨_, _, _, by first | rfl | (simp [errW_none, errW_some] <;> rfl) | (simp [*, errW_none, errW_some] <;> rfl), by first | exact Kd.R_nil _ _ _ _ _ | exact Kd.N_nil _ _ _ _ _ | exact Kd.V_nil _ _ _ _ _ | exact Kd.Q_nil _ _ _ _ _ | exact Kd.S_nil _ _ _ _ _, by first | exact Kd.R_nil _ _ _ _ _ | exact Kd.N_nil _ _ _ _ _ | exact Kd.V_nil _ _ _ _ _ | exact Kd.Q_nil _ _ _ _ _ | exact Kd.S_nil _ _ _ _ _, by first | exact Kd.R_nil _ _ _ _ _ | exact Kd.N_nil _ _ _ _ _ | exact Kd.V_nil _ _ _ _ _ | exact Kd.Q_nil _ _ _ _ _ | exact Kd.S_nil _ _ _ _ _, by repeat (first | (with_reducible first | exact HB.out | apply below_alloc | apply pw_below_drewN | apply below_drew1 | refine below_set ?_ GE212.out | refine below_set ?_ GE216.out) | exact HB.out)⟩
                                · rw [if_neg c65] at H
                                  exact absurd H (by simp)
                              · rw [if_neg c64] at H
                                exact absurd H (by simp)
                      · rw [if_neg c43] at H
                        exact absurd H (by simp)
                    · rw [if_neg c42] at H
                      exact absurd H (by simp)

end Go.Proofs.Ytklcggcejaecdaa.J
