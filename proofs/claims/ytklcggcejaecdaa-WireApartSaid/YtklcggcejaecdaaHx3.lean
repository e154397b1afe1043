-- Out of handprint.py, a program of this session that turns the kit's print: not the kit's print itself. Lean checks it.
import Derived.Test.YtklcggcejaecdaaHx0
import Derived.Test.YtklcggcejaecdaaHx2
namespace Go.Proofs.Ytklcggcejaecdaa.H
open Go.RowKit Go.Proofs.YtklcggcejaecdaaW.PrintWords Go.Proofs.YtklcggcejaecdaaW.PrintLast Go.Proofs.YtklcggcejaecdaaW.PrintMore
attribute [local go_sem] max2_int min2_int max_two min_two max_three min_three max_four min_four   -- for this text's walks alone
set_option linter.unusedVariables false
set_option linter.unusedSimpArgs false

/-! ### embrasureref01_Same: function 14 -/
def embrasureref01_Same.l0 : Nat → List Int → List Int → Int → Option (Bool)
  | 0, _, _, _ => none
  | k + 1, x0, x1, x5 => if x5 < (x0.length : Int) then (if 0 ≤ x5 then (if x5 < (x1.length : Int) then (if (rd x0 x5) = (rd x1 x5) then (embrasureref01_Same.l0 k x0 x1 (wrap64 (x5 + 1))) else (some false)) else (none)) else (none)) else (some true)
def embrasureref01_Same.f (k : Nat) (l0 : List Int) (l1 : List Int) : Option (Bool) := if (l0.length : Int) = (l1.length : Int) then (embrasureref01_Same.l0 k l0 l1 0) else (some false)
theorem embrasureref01_Same.mono_l : ∀ k, (∀ y0 y1 y2, LeO (embrasureref01_Same.l0 k y0 y1 y2) (embrasureref01_Same.l0 (k + 1) y0 y1 y2))
  | 0 => fun _ _ _ r h => by simp [embrasureref01_Same.l0] at h
  | k + 1 => by
    have ih0 := embrasureref01_Same.mono_l k
    · intro y0 y1 y2
      unfold embrasureref01_Same.l0
      repeat' first
      | (with_reducible exact ih0 _ _ _)
      | (with_reducible exact LeO.refl _)
      | (with_reducible exact LeO.none _)
      | (with_reducible refine LeO.ite ?_ ?_)
      | (with_reducible refine LeO.bind ?_ (fun _ => ?_))
      | exact ih0 _ _ _
      | exact LeO.none _
      | refine LeO.ite ?_ ?_
      | refine LeO.bind ?_ (fun _ => ?_)
theorem embrasureref01_Same.mono : ∀ a0 a1 k, LeO (embrasureref01_Same.f k a0 a1) (embrasureref01_Same.f (k + 1) a0 a1) := by
  intro a0 a1 k
  have ih0 := embrasureref01_Same.mono_l k
  unfold embrasureref01_Same.f
  repeat' first
      | (with_reducible exact ih0 _ _ _)
      | (with_reducible exact LeO.refl _)
      | (with_reducible exact LeO.none _)
      | (with_reducible refine LeO.ite ?_ ?_)
      | (with_reducible refine LeO.bind ?_ (fun _ => ?_))
      | exact ih0 _ _ _
      | exact LeO.none _
      | refine LeO.ite ?_ ?_
      | refine LeO.bind ?_ (fun _ => ?_)
set_option maxHeartbeats 8000000 in
set_option maxRecDepth 100000 in
theorem embrasureref01_Same.calls (k : Nat) (A0 : Option Addr) (c0 : Nat) (l0 : List Int) (A1 : Option Addr) (c1 : Nat) (l1 : List Int) (r : Bool) (w : World) (hr0 : Kd.C (Kd.int .u8) w A0 l0.length l0) (hc0 : l0.length ≤ c0) (hr1 : Kd.C (Kd.int .u8) w A1 l1.length l1) (hc1 : l1.length ≤ c1) (h : embrasureref01_Same.f k l0 l1 = some r) :
    Calls Try.prog 14 #[.slice A0 l0.length c0, .slice A1 l1.length c1] w fun e w' => e = .returned (.bool r) ∧ Drawn0 w w' := by
  have HR0 := Aside0.mk hr0
  have HC0 := Aside0.mk hc0
  clear hr0 hc0
  have HR1 := Aside0.mk hr1
  have HC1 := Aside0.mk hc1
  clear hr1 hc1
  have H : (if (l0.length : Int) = (l1.length : Int) then (embrasureref01_Same.l0 k l0 l1 0) else (some false)) = some r := h
  clear h
  by_cases c3 : (l0.length : Int) = (l1.length : Int)
  · rw [if_pos c3] at H
    have c3b0 : ((l0.length : Int) == (l1.length : Int)) = true := beq_iff_eq.mpr c3
    have c3b1 : ((l0.length : Int) != (l1.length : Int)) = false := bne_eq_false_iff_eq.mpr c3
    have c3b2 : (l0.length == l1.length) = true := by first | simpa using c3 | (simp at c3 ⊢; omega)
    clear c3
    have H' := Aside0.mk H
    clear H
    go_enter Try.func14, Try.ntmps14
    go_wp2
    repeat (go_quiet (fail); try go_wp2)
    go_loopg [5] k (fun kq v5 w' => ∃ (x5_1 : Int), v5 = .int .i64 x5_1 ∧ Aside0 (embrasureref01_Same.l0 kq l0 l1 x5_1 = some r) ∧ Aside0 (kq ≤ k) ∧ Drawn0 w w')
    case atStart => exact ⟨(0), (by first | rfl | (simp; done) | (simp [*]; done)), H', ⟨Nat.le_refl _⟩, by repeat (first | exact Drawn0.refl _ | apply Drawn0.step)⟩
    case round =>
      clear H'
      try clear c1
      try clear p2
      try clear c3
      try clear c3b0
      try clear c3b1
      try clear c3b2
      obtain ⟨x5_1, rfl, HA, HK1, ⟨m1, rfl⟩⟩ := hrel
      cases gk with
      | zero => exact absurd HA.out (by simp [embrasureref01_Same.l0])
      | succ k1 =>
        have H := HA.out
        clear HA
        simp only [embrasureref01_Same.l0] at H
        by_cases c4 : x5_1 < (l0.length : Int)
        · rw [if_pos c4] at H
          have c4b0 : decide (x5_1 < (l0.length : Int)) = true := decide_eq_true c4
          clear c4
          by_cases c5 : 0 ≤ x5_1
          · rw [if_pos c5] at H
            have c5b0 : decide (0 ≤ x5_1) = true := decide_eq_true c5
            clear c5
            by_cases c6 : x5_1 < (l1.length : Int)
            · rw [if_pos c6] at H
              have c6b0 : decide (x5_1 < (l1.length : Int)) = true := decide_eq_true c6
              clear c6
              by_cases c7 : (rd l0 x5_1) = (rd l1 x5_1)
              · rw [if_pos c7] at H
                have c7b0 : ((rd l0 x5_1) == (rd l1 x5_1)) = true := beq_iff_eq.mpr c7
                have c7b1 : ((rd l0 x5_1) != (rd l1 x5_1)) = false := bne_eq_false_iff_eq.mpr c7
                clear c7
                have H' := Aside0.mk H
                clear H
                have p147 : 0 ≤ (x5_1 : Int) := of_decide_eq_true (by first | (with_reducible assumption) | assumption)
                have q147 : x5_1 < (l0.length : Int) := of_decide_eq_true (by first | (with_reducible assumption) | assumption)
                obtain ⟨ad147, e147, hx147_0⟩ := Kd.at_int HR0.out x5_1 p147 q147
                cases e147
                replace p147 := eq_true p147
                replace q147 := eq_true q147
                have p148 : 0 ≤ (x5_1 : Int) := of_decide_eq_true (by first | (with_reducible assumption) | assumption)
                have q148 : x5_1 < (l1.length : Int) := of_decide_eq_true (by first | (with_reducible assumption) | assumption)
                obtain ⟨ad148, e148, hx148_0⟩ := Kd.at_int HR1.out x5_1 p148 q148
                cases e148
                replace p148 := eq_true p148
                replace q148 := eq_true q148
                go_wp2
                repeat (go_quiet (fail); try go_wp2)
                go_roundg k1
                case measure => have := HK1.out; omega
                case rel => exact ⟨(wrap64 (x5_1 + 1)), (by first | rfl | (simp; done) | (simp [*]; done)), H', ⟨by have := HK1.out; omega⟩, by repeat (first | exact Drawn0.refl _ | apply Drawn0.step)⟩
              · rw [if_neg c7] at H
                have c7b0 : ((rd l0 x5_1) == (rd l1 x5_1)) = false := beq_eq_false_iff_ne.mpr c7
                have c7b1 : ((rd l0 x5_1) != (rd l1 x5_1)) = true := bne_iff_ne.mpr c7
                obtain rfl := Option.some.inj H
                have p147 : 0 ≤ (x5_1 : Int) := of_decide_eq_true (by first | (with_reducible assumption) | assumption)
                have q147 : x5_1 < (l0.length : Int) := of_decide_eq_true (by first | (with_reducible assumption) | assumption)
                obtain ⟨ad147, e147, hx147_0⟩ := Kd.at_int HR0.out x5_1 p147 q147
                cases e147
                replace p147 := eq_true p147
                replace q147 := eq_true q147
                have p148 : 0 ≤ (x5_1 : Int) := of_decide_eq_true (by first | (with_reducible assumption) | assumption)
                have q148 : x5_1 < (l1.length : Int) := of_decide_eq_true (by first | (with_reducible assumption) | assumption)
                obtain ⟨ad148, e148, hx148_0⟩ := Kd.at_int HR1.out x5_1 p148 q148
                cases e148
                replace p148 := eq_true p148
                replace q148 := eq_true q148
                go_wp2
                repeat (go_quiet (fail); try go_wp2)
                go_ret
                exact ⟨by first | rfl | (simp; done) | (simp [*]; done), by repeat (first | exact Drawn0.refl _ | apply Drawn0.step)⟩
            · rw [if_neg c6] at H
              exact absurd H (by simp)
          · rw [if_neg c5] at H
            exact absurd H (by simp)
        · rw [if_neg c4] at H
          have c4b0 : decide (x5_1 < (l0.length : Int)) = false := decide_eq_false c4
          clear c4
          obtain rfl := Option.some.inj H
          go_wp2
          repeat (go_quiet (fail); try go_wp2)
          go_ret
          exact ⟨by first | rfl | (simp; done) | (simp [*]; done), by repeat (first | exact Drawn0.refl _ | apply Drawn0.step)⟩
  · rw [if_neg c3] at H
    have c3b0 : ((l0.length : Int) == (l1.length : Int)) = false := beq_eq_false_iff_ne.mpr c3
    have c3b1 : ((l0.length : Int) != (l1.length : Int)) = true := bne_iff_ne.mpr c3
    have c3b2 : (l0.length == l1.length) = false := by first | simpa using c3 | (simp at c3 ⊢; omega)
    obtain rfl := Option.some.inj H
    go_enter Try.func14, Try.ntmps14
    go_wp2
    repeat (go_quiet (fail); try go_wp2)
    go_ret
    exact ⟨by first | rfl | (simp; done) | (simp [*]; done), by repeat (first | exact Drawn0.refl _ | apply Drawn0.step)⟩

/-- THE ONE PURE STATEMENT of embrasureref01_Same: yours. -/
def embrasureref01_Same.Pure : Prop := ∀ (l0 : List Int) (l1 : List Int), l0.length ≤ maxLen → l0.length * 1 ≤ 140737488351232 → (∀ x ∈ l0, (Lit.int .u8 x).wf = true) → l1.length ≤ maxLen → l1.length * 1 ≤ 140737488351232 → (∀ x ∈ l1, (Lit.int .u8 x).wf = true) → ∃ k, embrasureref01_Same.f k l0 l1 = some true
theorem embrasureref01_Same.walk (P : embrasureref01_Same.Pure) (a0 : Option Addr) (len0 cap0 : Nat) (z0 : List Int) (a1 : Option Addr) (len1 cap1 : Nat) (z1 : List Int) (w : World) (w0 : (a0 = none ∧ len0 = 0 ∧ cap0 = 0 ∧ z0 = []) ∨ ∃ x, a0 = some x ∧ len0 ≤ cap0 ∧ cap0 ≤ maxLen ∧ z0.length = cap0 ∧ (∀ i, i < z0.length → w.cell? (x.add i) = some (.int .u8 (z0.getD i 0))) ∧ ∀ n ∈ z0, (Lit.int .u8 n).wf = true) (y0 : len0 * 1 ≤ 140737488351232) (w1 : (a1 = none ∧ len1 = 0 ∧ cap1 = 0 ∧ z1 = []) ∨ ∃ x, a1 = some x ∧ len1 ≤ cap1 ∧ cap1 ≤ maxLen ∧ z1.length = cap1 ∧ (∀ i, i < z1.length → w.cell? (x.add i) = some (.int .u8 (z1.getD i 0))) ∧ ∀ n ∈ z1, (Lit.int .u8 n).wf = true) (y1 : len1 * 1 ≤ 140737488351232) :
    Calls Try.prog 14 #[.slice a0 len0 cap0, .slice a1 len1 cap1] w fun e w' => e = .returned (.bool true) ∧ Below w.heap.size w w' := by
  obtain ⟨l0, rfl, hr0, hm0, hw0, hc0⟩ := ReadsInt.ofRowC w0
  obtain ⟨l1, rfl, hr1, hm1, hw1, hc1⟩ := ReadsInt.ofRowC w1
  obtain ⟨k, h⟩ := P l0 l1 hm0 y0 hw0 hm1 y1 hw1
  refine (embrasureref01_Same.calls k _ _ l0 _ _ l1 true w (Kd.C_of_reads (d := (0 : Int)) (h1 := fun _ => rfl) hr0) hc0 (Kd.C_of_reads (d := (0 : Int)) (h1 := fun _ => rfl) hr1) hc1 h).mono ?_
  rintro e w' ⟨rfl, hd⟩
  exact ⟨rfl, hd.below⟩

/-! ### embrasureref02_Put: function 33 -/
def embrasureref02_Put.f (k : Nat) (l0 : List Int) : Option (List Int × Int) := if (l0.length : Int) > 1200 then (some (([] : List Int), 4)) else ((embrasureref01_Put.f k (IntKind.u64.wrap ((l0.length : Int)))).bind fun t149 => (if t149.length + l0.length < 140737488355328 then (some ((t149 ++ l0), 0)) else (none)))
theorem embrasureref02_Put.mono : ∀ a0 k, LeO (embrasureref02_Put.f k a0) (embrasureref02_Put.f (k + 1) a0) := by
  intro a0 k
  unfold embrasureref02_Put.f
  repeat' first
      | (with_reducible exact embrasureref01_Put.mono _ _)
      | (with_reducible exact LeO.refl _)
      | (with_reducible exact LeO.none _)
      | (with_reducible refine LeO.ite ?_ ?_)
      | (with_reducible refine LeO.bind ?_ (fun _ => ?_))
      | exact embrasureref01_Put.mono _ _
      | exact LeO.none _
      | refine LeO.ite ?_ ?_
      | refine LeO.bind ?_ (fun _ => ?_)
set_option maxHeartbeats 8000000 in
set_option maxRecDepth 100000 in
theorem embrasureref02_Put.calls (k : Nat) (A0 : Option Addr) (c0 : Nat) (l0 : List Int) (r1 : List Int) (r2 : Int) (w : World) (hr0 : Kd.C (Kd.int .u8) w A0 l0.length l0) (hc0 : l0.length ≤ c0) (h : embrasureref02_Put.f k l0 = some (r1, r2)) :
    Calls Try.prog 33 #[.slice A0 l0.length c0] w fun e w' => ∃ v0_ : Value, e = .returned (.tuple #[v0_, .int .i64 r2]) ∧ Kd.R (Kd.int .u8) 5 w' w.heap.size (fun _ => True) v0_ r1 ∧ Below w.heap.size w w' := by
  have HR0 := Aside0.mk hr0
  have HC0 := Aside0.mk hc0
  clear hr0 hc0
  have HB := Aside0.mk (Below.refl w.heap.size w)
  have H : (if (l0.length : Int) > 1200 then (some (([] : List Int), 4)) else ((embrasureref01_Put.f k (IntKind.u64.wrap ((l0.length : Int)))).bind fun t149 => (if t149.length + l0.length < 140737488355328 then (some ((t149 ++ l0), 0)) else (none)))) = some (r1, r2) := h
  clear h
  by_cases c2 : (l0.length : Int) > 1200
  · rw [if_pos c2] at H
    have c2b0 : decide (1200 < (l0.length : Int)) = true := decide_eq_true c2
    have c2b1 : decide (1200 < l0.length) = true := decide_eq_true (by omega)
    clear c2
    simp only [Option.some.injEq, Prod.mk.injEq] at H
    obtain ⟨rfl, rfl⟩ := H
    go_enter Try.func33, Try.ntmps33
    go_wp2
    go_ret2
    exact ⟨_, by first | rfl | (simp [errW_none, errW_some] <;> rfl) | (simp [*, errW_none, errW_some] <;> rfl), by first | exact Kd.R_nil _ _ _ _ _ | exact Kd.N_nil _ _ _ _ _ | exact Kd.V_nil _ _ _ _ _ | exact Kd.Q_nil _ _ _ _ _ | exact Kd.S_nil _ _ _ _ _, by repeat (first | (with_reducible first | exact HB.out | apply below_alloc | apply pw_below_drewN | apply below_drew1) | exact HB.out)⟩
  · rw [if_neg c2] at H
    have c2b0 : decide (1200 < (l0.length : Int)) = false := decide_eq_false c2
    have c2b1 : decide (1200 < l0.length) = false := decide_eq_false (by omega)
    clear c2
    replace H := Option.bind_eq_some_iff.mp H
    obtain ⟨t149, A30, H⟩ := H
    replace H : (if t149.length + l0.length < 140737488355328 then (some ((t149 ++ l0), 0)) else (none)) = some (r1, r2) := H
    have A3 := Aside0.mk A30
    clear A30
    by_cases c4 : t149.length + l0.length < 140737488355328
    · rw [if_pos c4] at H
      have LMc4 := Aside0.mk c4
      clear c4
      obtain ⟨y152, hy152⟩ : ∃ y_ : List Int, y_ = (t149 ++ l0) := ⟨_, rfl⟩
      replace H : (some (y152, 0)) = some (r1, r2) := by first | (rw [hy152]; with_reducible exact H) | (have H2_ := (Option.bind_some _ _).symm.trans H; rw [hy152]; with_reducible exact H2_) | (have H2_ := (Option.bind_some _ _).symm.trans H; with_reducible exact H2_) | with_reducible exact H | (rw [hy152]; exact H) | exact H
      have Ny152 := Aside0.mk hy152
      clear hy152
      simp only [Option.some.injEq, Prod.mk.injEq] at H
      obtain ⟨rfl, rfl⟩ := H
      go_enter Try.func33, Try.ntmps33
      go_wp2_with (first | ((with_reducible refine gate_callee (f := 31) rfl ?_); refine goesL_ (some 10) rfl rfl Try.func31 (by kernel_rfl) rfl #[.int .u64 (IntKind.u64.wrap ((l0.length : Int)))] rfl (by (try simp only [List.map_toArray, List.map_cons, List.map_nil]); first | done | rfl | (simp only [List.length_drop, List.length_take]; rfl)) ?_; (with_reducible refine (embrasureref01_Put.calls k (IntKind.u64.wrap ((l0.length : Int))) t149 _ A3.out).mono ?_); rintro e w5 ⟨v150, rfl, ho0, hb⟩; refine ⟨_, rfl, ?_⟩; have n0_ := Aside0.mk (Kd.R_lower ho0 (below_size (by repeat (first | (with_reducible first | exact HB.out | apply below_alloc | apply pw_below_drewN | apply below_drew1) | exact HB.out)))); have n1_ := Aside0.mk (below_step (by repeat (first | (with_reducible first | exact HB.out | apply below_alloc | apply pw_below_drewN | apply below_drew1) | exact HB.out)) hb); clear HB; have HO151 := n0_; have HB := n1_; clear n0_ n1_; (try clear hb); (try clear hb2); (try clear hk); (try clear hi); (try clear ho0)) | ((with_reducible refine gate_builtin (b := .append) (xs := #[.tmp 10, .tmp 11]) rfl ?_); at_builtin; refine Kd.R_append_rows (Kd.int .u8) (w0 := w) w.heap.size rfl (.tmp 10) (.tmp 11) 24 5 (.int .u8 0) 1 rfl Try.underlying24 info5 rfl (by decide) (by omega) v150 t149 l0 _ _ _ (fun _ => True) (fun _ => False) rfl rfl ?aO ?aR (fun _ _ h => h) (fun _ h => h.elim) ?aF ?aB ?aS ?aL ?_; (case aR => repeat (first | exact (Kd.C_below HR0.out HB.out) | (with_reducible refine Kd.C_alloc ?_ _) | (with_reducible refine Kd.C_drewN ?_ _) | (with_reducible refine Kd.C_drew ?_))); (case aB => exact (by repeat (first | (with_reducible first | exact HB.out | apply below_alloc | apply pw_below_drewN | apply below_drew1) | exact HB.out))); (case aF => exact (fun _ _ => trivial)); (case aO => exact (by (with_reducible repeat (first | apply Kd.R_alloc | apply Kd.R_drewN | apply Kd.R_drew)); exact HO151.out)); (case aS => exact (below_size (by repeat (first | (with_reducible first | exact HB.out | apply below_alloc | apply pw_below_drewN | apply below_drew1) | exact HB.out)))); (case aL => have := LMc4.out; omega); intro v153 w6 ho hb hg hat; rw [← Ny152.out] at ho; have n0_ := Aside0.mk (hb); have n1_ := Aside0.mk (ho); clear HB; clear HO151; have HB := n0_; have HO154 := n1_; clear n0_ n1_; clear ho hb hg hat))
      go_ret2
      exact ⟨_, by first | rfl | (simp [errW_none, errW_some] <;> rfl) | (simp [*, errW_none, errW_some] <;> rfl), by (with_reducible repeat (first | apply Kd.R_alloc | apply Kd.R_drewN | apply Kd.R_drew)); exact HO154.out, by repeat (first | (with_reducible first | exact HB.out | apply below_alloc | apply pw_below_drewN | apply below_drew1) | exact HB.out)⟩
    · rw [if_neg c4] at H
      exact absurd H (by simp)

/-! ### embrasureref02_Get: function 40 -/
def embrasureref02_Get.f (k : Nat) (l0 : List Int) : Option (List Int × Int × Int) := (embrasureref01_Get.f k l0).bind fun bt155 => (if bt155.2.2 = 0 then (if bt155.1 > 1200 then (some (([] : List Int), 0, 4)) else (if (IntKind.u64.wrap (wrap64 ((l0.length : Int) - bt155.2.1))) < bt155.1 then (some (([] : List Int), 0, 2)) else ((some (([] : List Int) : List Int)).bind fun y158 => (if 0 ≤ bt155.2.1 then (if bt155.2.1 ≤ (wrap64 (bt155.2.1 + (wrap64 (bt155.1)))) then (if (wrap64 (bt155.2.1 + (wrap64 (bt155.1)))) ≤ (l0.length : Int) then (if y158.length + ((l0.take ((wrap64 (bt155.2.1 + (wrap64 (bt155.1)))) : Int).toNat).drop (bt155.2.1 : Int).toNat).length < 140737488355328 then (some ((y158 ++ ((l0.take ((wrap64 (bt155.2.1 + (wrap64 (bt155.1)))) : Int).toNat).drop (bt155.2.1 : Int).toNat)), wrap64 (bt155.2.1 + (wrap64 (bt155.1))), 0)) else (none)) else (none)) else (none)) else (none))))) else (some (([] : List Int), 0, bt155.2.2)))
theorem embrasureref02_Get.mono : ∀ a0 k, LeO (embrasureref02_Get.f k a0) (embrasureref02_Get.f (k + 1) a0) := by
  intro a0 k
  unfold embrasureref02_Get.f
  repeat' first
      | (with_reducible exact embrasureref01_Get.mono _ _)
      | (with_reducible exact LeO.refl _)
      | (with_reducible exact LeO.none _)
      | (with_reducible refine LeO.ite ?_ ?_)
      | (with_reducible refine LeO.bind ?_ (fun _ => ?_))
      | exact embrasureref01_Get.mono _ _
      | exact LeO.none _
      | refine LeO.ite ?_ ?_
      | refine LeO.bind ?_ (fun _ => ?_)
set_option maxHeartbeats 8000000 in
set_option maxRecDepth 100000 in
theorem embrasureref02_Get.calls (k : Nat) (A0 : Option Addr) (c0 : Nat) (l0 : List Int) (r1 : List Int) (r2 : Int) (r3 : Int) (w : World) (hr0 : Kd.C (Kd.int .u8) w A0 l0.length l0) (hc0 : l0.length ≤ c0) (h : embrasureref02_Get.f k l0 = some (r1, r2, r3)) :
    Calls Try.prog 40 #[.slice A0 l0.length c0] w fun e w' => ∃ v0_ : Value, e = .returned (.tuple #[v0_, .int .i64 r2, .int .i64 r3]) ∧ Kd.R (Kd.int .u8) 5 w' w.heap.size (fun _ => True) v0_ r1 ∧ Below w.heap.size w w' := by
  have HR0 := Aside0.mk hr0
  have HC0 := Aside0.mk hc0
  clear hr0 hc0
  have HB := Aside0.mk (Below.refl w.heap.size w)
  have H : ((embrasureref01_Get.f k l0).bind fun bt155 => (if bt155.2.2 = 0 then (if bt155.1 > 1200 then (some (([] : List Int), 0, 4)) else (if (IntKind.u64.wrap (wrap64 ((l0.length : Int) - bt155.2.1))) < bt155.1 then (some (([] : List Int), 0, 2)) else ((some (([] : List Int) : List Int)).bind fun y158 => (if 0 ≤ bt155.2.1 then (if bt155.2.1 ≤ (wrap64 (bt155.2.1 + (wrap64 (bt155.1)))) then (if (wrap64 (bt155.2.1 + (wrap64 (bt155.1)))) ≤ (l0.length : Int) then (if y158.length + ((l0.take ((wrap64 (bt155.2.1 + (wrap64 (bt155.1)))) : Int).toNat).drop (bt155.2.1 : Int).toNat).length < 140737488355328 then (some ((y158 ++ ((l0.take ((wrap64 (bt155.2.1 + (wrap64 (bt155.1)))) : Int).toNat).drop (bt155.2.1 : Int).toNat)), wrap64 (bt155.2.1 + (wrap64 (bt155.1))), 0)) else (none)) else (none)) else (none)) else (none))))) else (some (([] : List Int), 0, bt155.2.2)))) = some (r1, r2, r3) := h
  clear h
  replace H := Option.bind_eq_some_iff.mp H
  obtain ⟨⟨t155, t156, t157⟩, A20, H⟩ := H
  replace H : (if t157 = 0 then (if t155 > 1200 then (some (([] : List Int), 0, 4)) else (if (IntKind.u64.wrap (wrap64 ((l0.length : Int) - t156))) < t155 then (some (([] : List Int), 0, 2)) else ((some (([] : List Int) : List Int)).bind fun y158 => (if 0 ≤ t156 then (if t156 ≤ (wrap64 (t156 + (wrap64 (t155)))) then (if (wrap64 (t156 + (wrap64 (t155)))) ≤ (l0.length : Int) then (if y158.length + ((l0.take ((wrap64 (t156 + (wrap64 (t155)))) : Int).toNat).drop (t156 : Int).toNat).length < 140737488355328 then (some ((y158 ++ ((l0.take ((wrap64 (t156 + (wrap64 (t155)))) : Int).toNat).drop (t156 : Int).toNat)), wrap64 (t156 + (wrap64 (t155))), 0)) else (none)) else (none)) else (none)) else (none))))) else (some (([] : List Int), 0, t157))) = some (r1, r2, r3) := H
  have A2 := Aside0.mk A20
  clear A20
  by_cases c3 : t157 = 0
  · rw [if_pos c3] at H
    have c3b0 : (t157 == 0) = true := beq_iff_eq.mpr c3
    have c3b1 : (t157 != 0) = false := bne_eq_false_iff_eq.mpr c3
    clear c3
    by_cases c4 : t155 > 1200
    · rw [if_pos c4] at H
      have c4b0 : decide (1200 < t155) = true := decide_eq_true c4
      clear c4
      simp only [Option.some.injEq, Prod.mk.injEq] at H
      obtain ⟨rfl, rfl, rfl⟩ := H
      go_enter Try.func40, Try.ntmps40
      go_wp2_with (first | ((with_reducible refine gate_callee (f := 38) rfl ?_); refine goesL_ (some 10) rfl rfl Try.func38 (by kernel_rfl) rfl #[.slice A0 l0.length c0] rfl (by (try simp only [List.map_toArray, List.map_cons, List.map_nil]); first | done | rfl | (simp only [List.length_drop, List.length_take]; rfl)) ?_; (with_reducible refine (embrasureref01_Get.calls k _ _ l0 t155 t156 t157 _ ?side1 ?side2 A2.out).mono ?_); (case side1 => repeat (first | exact HR0.out | (with_reducible refine Kd.C_alloc ?_ _) | (with_reducible refine Kd.C_drewN ?_ _) | (with_reducible refine Kd.C_drew ?_))); (case side2 => exact HC0.out); rintro e w' ⟨rfl, ⟨nd, rfl⟩⟩; refine ⟨_, rfl, ?_⟩))
      go_ret3
      exact ⟨_, by first | rfl | (simp [errW_none, errW_some] <;> rfl) | (simp [*, errW_none, errW_some] <;> rfl), by first | exact Kd.R_nil _ _ _ _ _ | exact Kd.N_nil _ _ _ _ _ | exact Kd.V_nil _ _ _ _ _ | exact Kd.Q_nil _ _ _ _ _ | exact Kd.S_nil _ _ _ _ _, by repeat (first | (with_reducible first | exact HB.out | apply below_alloc | apply pw_below_drewN | apply below_drew1) | exact HB.out)⟩
    · rw [if_neg c4] at H
      have c4b0 : decide (1200 < t155) = false := decide_eq_false c4
      clear c4
      by_cases c5 : (IntKind.u64.wrap (wrap64 ((l0.length : Int) - t156))) < t155
      · rw [if_pos c5] at H
        have c5b0 : decide ((IntKind.u64.wrap (wrap64 ((l0.length : Int) - t156))) < t155) = true := decide_eq_true c5
        clear c5
        simp only [Option.some.injEq, Prod.mk.injEq] at H
        obtain ⟨rfl, rfl, rfl⟩ := H
        go_enter Try.func40, Try.ntmps40
        go_wp2_with (first | ((with_reducible refine gate_callee (f := 38) rfl ?_); refine goesL_ (some 10) rfl rfl Try.func38 (by kernel_rfl) rfl #[.slice A0 l0.length c0] rfl (by (try simp only [List.map_toArray, List.map_cons, List.map_nil]); first | done | rfl | (simp only [List.length_drop, List.length_take]; rfl)) ?_; (with_reducible refine (embrasureref01_Get.calls k _ _ l0 t155 t156 t157 _ ?side1 ?side2 A2.out).mono ?_); (case side1 => repeat (first | exact HR0.out | (with_reducible refine Kd.C_alloc ?_ _) | (with_reducible refine Kd.C_drewN ?_ _) | (with_reducible refine Kd.C_drew ?_))); (case side2 => exact HC0.out); rintro e w' ⟨rfl, ⟨nd, rfl⟩⟩; refine ⟨_, rfl, ?_⟩))
        go_ret3
        exact ⟨_, by first | rfl | (simp [errW_none, errW_some] <;> rfl) | (simp [*, errW_none, errW_some] <;> rfl), by first | exact Kd.R_nil _ _ _ _ _ | exact Kd.N_nil _ _ _ _ _ | exact Kd.V_nil _ _ _ _ _ | exact Kd.Q_nil _ _ _ _ _ | exact Kd.S_nil _ _ _ _ _, by repeat (first | (with_reducible first | exact HB.out | apply below_alloc | apply pw_below_drewN | apply below_drew1) | exact HB.out)⟩
      · rw [if_neg c5] at H
        have c5b0 : decide ((IntKind.u64.wrap (wrap64 ((l0.length : Int) - t156))) < t155) = false := decide_eq_false c5
        clear c5
        obtain ⟨y158, hy158⟩ : ∃ y_ : List Int, y_ = (([] : List Int)) := ⟨_, rfl⟩
        replace H : (if 0 ≤ t156 then (if t156 ≤ (wrap64 (t156 + (wrap64 (t155)))) then (if (wrap64 (t156 + (wrap64 (t155)))) ≤ (l0.length : Int) then (if y158.length + ((l0.take ((wrap64 (t156 + (wrap64 (t155)))) : Int).toNat).drop (t156 : Int).toNat).length < 140737488355328 then (some ((y158 ++ ((l0.take ((wrap64 (t156 + (wrap64 (t155)))) : Int).toNat).drop (t156 : Int).toNat)), wrap64 (t156 + (wrap64 (t155))), 0)) else (none)) else (none)) else (none)) else (none)) = some (r1, r2, r3) := by first | (rw [hy158]; with_reducible exact H) | (have H2_ := (Option.bind_some _ _).symm.trans H; rw [hy158]; with_reducible exact H2_) | (have H2_ := (Option.bind_some _ _).symm.trans H; with_reducible exact H2_) | with_reducible exact H | (rw [hy158]; exact H) | exact H
        have Ny158 := Aside0.mk hy158
        clear hy158
        by_cases c6 : 0 ≤ t156
        · rw [if_pos c6] at H
          have c6b0 := eq_true c6
          have c6b1 : decide (0 ≤ t156) = true := decide_eq_true c6
          clear c6
          by_cases c7 : t156 ≤ (wrap64 (t156 + (wrap64 (t155))))
          · rw [if_pos c7] at H
            have c7b0 := eq_true c7
            have c7b1 : decide (t156 ≤ (wrap64 (t156 + (wrap64 (t155))))) = true := decide_eq_true c7
            by_cases c8 : (wrap64 (t156 + (wrap64 (t155)))) ≤ (l0.length : Int)
            · rw [if_pos c8] at H
              have c8b0 := eq_true c8
              have c8b1 : decide ((wrap64 (t156 + (wrap64 (t155)))) ≤ (l0.length : Int)) = true := decide_eq_true c8
              by_cases c9 : y158.length + ((l0.take ((wrap64 (t156 + (wrap64 (t155)))) : Int).toNat).drop (t156 : Int).toNat).length < 140737488355328
              · rw [if_pos c9] at H
                have LMc9 := Aside0.mk c9
                clear c9
                obtain ⟨y162, hy162⟩ : ∃ y_ : List Int, y_ = (y158 ++ ((l0.take ((wrap64 (t156 + (wrap64 (t155)))) : Int).toNat).drop (t156 : Int).toNat)) := ⟨_, rfl⟩
                replace H : (some (y162, wrap64 (t156 + (wrap64 (t155))), 0)) = some (r1, r2, r3) := by first | (rw [hy162]; with_reducible exact H) | (have H2_ := (Option.bind_some _ _).symm.trans H; rw [hy162]; with_reducible exact H2_) | (have H2_ := (Option.bind_some _ _).symm.trans H; with_reducible exact H2_) | with_reducible exact H | (rw [hy162]; exact H) | exact H
                have Ny162 := Aside0.mk hy162
                clear hy162
                simp only [Option.some.injEq, Prod.mk.injEq] at H
                obtain ⟨rfl, rfl, rfl⟩ := H
                go_enter Try.func40, Try.ntmps40
                go_wp2_with (first | ((with_reducible refine gate_callee (f := 38) rfl ?_); refine goesL_ (some 10) rfl rfl Try.func38 (by kernel_rfl) rfl #[.slice A0 l0.length c0] rfl (by (try simp only [List.map_toArray, List.map_cons, List.map_nil]); first | done | rfl | (simp only [List.length_drop, List.length_take]; rfl)) ?_; (with_reducible refine (embrasureref01_Get.calls k _ _ l0 t155 t156 t157 _ ?side1 ?side2 A2.out).mono ?_); (case side1 => repeat (first | exact HR0.out | (with_reducible refine Kd.C_alloc ?_ _) | (with_reducible refine Kd.C_drewN ?_ _) | (with_reducible refine Kd.C_drew ?_))); (case side2 => exact HC0.out); rintro e w' ⟨rfl, ⟨nd, rfl⟩⟩; refine ⟨_, rfl, ?_⟩) | ((with_reducible refine gate_dst (N := 26) rfl ?_); refine Kd.R_lit (Kd.int .u8) _ 5 ?hg (N := 26) ?hd (xs := ([] : List Int)) (inner := []) (ok := fun _ => True) (okp := fun _ => True) ?hr ?hp (fun _ hk => hk) trivial (Below.refl _ _) (Nat.le_refl _) (by simp) ?_; (case hd => rfl); (case hg => rfl); (case hr => first | (go_simp; done) | (go_simp; rfl)); (case hp => exact (Reps.none _ _)); intro v159 w10 ho11 hb hg_ hnew_; clear hg_ hnew_; (first | rw [← Ny158.out] at ho11 | (simp only [Int.reduceToNat] at ho11; rw [← Ny158.out] at ho11)); have n0_ := Aside0.mk (Kd.R_lower ho11 (below_size (by repeat (first | (with_reducible first | exact HB.out | apply below_alloc | apply pw_below_drewN | apply below_drew1) | exact HB.out)))); have n1_ := Aside0.mk (below_step (by repeat (first | (with_reducible first | exact HB.out | apply below_alloc | apply pw_below_drewN | apply below_drew1) | exact HB.out)) hb); clear HB; have HO160 := n0_; have HB := n1_; clear n0_ n1_; clear hb ho11; obtain ⟨i012, hi012, _, hsz12, _⟩ := info_parts info5; obtain ⟨A12, hcut12, hA12, hC12⟩ := print_mid_of (P := Try.prog) (Value.int .u8) 0 24 5 .i64 .i64 Try.underlying24 hi012 hsz12 A0 c0 l0 t156 (wrap64 (t156 + (wrap64 (t155)))) (of_decide_eq_true (by first | (with_reducible assumption) | assumption)) (by first | omega | exact of_decide_eq_true (by first | (with_reducible assumption) | assumption)) (of_decide_eq_true (by first | (with_reducible assumption) | assumption)) HC0.out; have HR161 := Aside0.mk (Kd.C_of_reads (h1 := fun _ => rfl) (hA12 _ (Kd.reads_of_C HR0.out))); have HC161 := Aside0.mk hC12; clear hA12 hC12 hi012 hsz12) | ((with_reducible refine gate_builtin (b := .append) (xs := #[.tmp 26, .tmp 33]) rfl ?_); at_builtin; refine Kd.R_append_rows (Kd.int .u8) (w0 := w) w.heap.size rfl (.tmp 26) (.tmp 33) 24 5 (.int .u8 0) 1 rfl Try.underlying24 info5 rfl (by decide) (by omega) v159 y158 ((l0.take ((wrap64 (t156 + (wrap64 (t155)))) : Int).toNat).drop (t156 : Int).toNat) _ _ _ (fun _ => True) (fun _ => False) rfl rfl ?aO ?aR (fun _ _ h => h) (fun _ h => h.elim) ?aF ?aB ?aS ?aL ?_; (case aR => first | (rw [← show ((l0.take ((wrap64 (t156 + (wrap64 (t155)))) : Int).toNat).drop (t156 : Int).toNat).length = ((wrap64 (t156 + (wrap64 (t155)))).toNat - t156.toNat) from (by rw [List.length_drop, List.length_take]; have h_ : ((wrap64 (t156 + (wrap64 (t155)))) : Int) ≤ (l0.length : Int) := of_decide_eq_true (by first | (with_reducible assumption) | assumption); omega)]; repeat (first | exact (Kd.C_below HR161.out HB.out) | (with_reducible refine Kd.C_alloc ?_ _) | (with_reducible refine Kd.C_drewN ?_ _) | (with_reducible refine Kd.C_drew ?_))) | (repeat (first | exact (Kd.C_below HR161.out HB.out) | (with_reducible refine Kd.C_alloc ?_ _) | (with_reducible refine Kd.C_drewN ?_ _) | (with_reducible refine Kd.C_drew ?_)))); (case aB => exact (by repeat (first | (with_reducible first | exact HB.out | apply below_alloc | apply pw_below_drewN | apply below_drew1) | exact HB.out))); (case aF => exact (fun _ _ => trivial)); (case aO => exact (by (with_reducible repeat (first | apply Kd.R_alloc | apply Kd.R_drewN | apply Kd.R_drew)); exact HO160.out)); (case aS => exact (below_size (by repeat (first | (with_reducible first | exact HB.out | apply below_alloc | apply pw_below_drewN | apply below_drew1) | exact HB.out)))); (case aL => have := LMc9.out; have hlx_ := (show ((l0.take ((wrap64 (t156 + (wrap64 (t155)))) : Int).toNat).drop (t156 : Int).toNat).length = ((wrap64 (t156 + (wrap64 (t155)))).toNat - t156.toNat) from (by rw [List.length_drop, List.length_take]; have h_ : ((wrap64 (t156 + (wrap64 (t155)))) : Int) ≤ (l0.length : Int) := of_decide_eq_true (by first | (with_reducible assumption) | assumption); omega)); omega); intro v163 w13 ho hb hg hat; rw [← Ny162.out] at ho; have n0_ := Aside0.mk (hb); have n1_ := Aside0.mk (ho); clear HB; clear HO160; have HB := n0_; have HO164 := n1_; clear n0_ n1_; clear ho hb hg hat))
                go_ret3
                exact ⟨_, by first | rfl | (simp [errW_none, errW_some] <;> rfl) | (simp [*, errW_none, errW_some] <;> rfl), by (with_reducible repeat (first | apply Kd.R_alloc | apply Kd.R_drewN | apply Kd.R_drew)); exact HO164.out, by repeat (first | (with_reducible first | exact HB.out | apply below_alloc | apply pw_below_drewN | apply below_drew1) | exact HB.out)⟩
              · rw [if_neg c9] at H
                exact absurd H (by simp)
            · rw [if_neg c8] at H
              exact absurd H (by simp)
          · rw [if_neg c7] at H
            exact absurd H (by simp)
        · rw [if_neg c6] at H
          exact absurd H (by simp)
  · rw [if_neg c3] at H
    have c3b0 : (t157 == 0) = false := beq_eq_false_iff_ne.mpr c3
    have c3b1 : (t157 != 0) = true := bne_iff_ne.mpr c3
    simp only [Option.some.injEq, Prod.mk.injEq] at H
    obtain ⟨rfl, rfl, rfl⟩ := H
    go_enter Try.func40, Try.ntmps40
    go_wp2_with (first | ((with_reducible refine gate_callee (f := 38) rfl ?_); refine goesL_ (some 10) rfl rfl Try.func38 (by kernel_rfl) rfl #[.slice A0 l0.length c0] rfl (by (try simp only [List.map_toArray, List.map_cons, List.map_nil]); first | done | rfl | (simp only [List.length_drop, List.length_take]; rfl)) ?_; (with_reducible refine (embrasureref01_Get.calls k _ _ l0 t155 t156 t157 _ ?side1 ?side2 A2.out).mono ?_); (case side1 => repeat (first | exact HR0.out | (with_reducible refine Kd.C_alloc ?_ _) | (with_reducible refine Kd.C_drewN ?_ _) | (with_reducible refine Kd.C_drew ?_))); (case side2 => exact HC0.out); rintro e w' ⟨rfl, ⟨nd, rfl⟩⟩; refine ⟨_, rfl, ?_⟩))
    go_ret3
    exact ⟨_, by first | rfl | (simp [errW_none, errW_some] <;> rfl) | (simp [*, errW_none, errW_some] <;> rfl), by first | exact Kd.R_nil _ _ _ _ _ | exact Kd.N_nil _ _ _ _ _ | exact Kd.V_nil _ _ _ _ _ | exact Kd.Q_nil _ _ _ _ _ | exact Kd.S_nil _ _ _ _ _, by repeat (first | (with_reducible first | exact HB.out | apply below_alloc | apply pw_below_drewN | apply below_drew1) | exact HB.out)⟩

/-! ### embrasureref03_May: function 30 -/
def embrasureref03_May.f (a0_0 : Int) (a0_1 : Int) : Option (Bool) := if a0_0 > 0 then (if a0_1 > 0 then (some (decide (a0_1 < 65536))) else (some false)) else (some false)
set_option maxHeartbeats 8000000 in
set_option maxRecDepth 100000 in
theorem embrasureref03_May.calls (a0_0 : Int) (a0_1 : Int) (r : Bool) (w : World) (h : embrasureref03_May.f a0_0 a0_1 = some r) :
    Calls Try.prog 30 #[.agg #[.int .u32 a0_0, .int .i64 a0_1]] w fun e w' => e = .returned (.bool r) ∧ Below w.heap.size w w' := by
  have hu45 := Try.underlying45
  have HB := Aside0.mk (Below.refl w.heap.size w)
  have H : (if a0_0 > 0 then (if a0_1 > 0 then (some (decide (a0_1 < 65536))) else (some false)) else (some false)) = some r := h
  clear h
  by_cases c2 : a0_0 > 0
  · rw [if_pos c2] at H
    have c2b0 : decide (0 < a0_0) = true := decide_eq_true c2
    clear c2
    by_cases c3 : a0_1 > 0
    · rw [if_pos c3] at H
      have c3b0 : decide (0 < a0_1) = true := decide_eq_true c3
      clear c3
      obtain rfl := Option.some.inj H
      go_enter Try.func30, Try.ntmps30
      go_wp2_with (first | ((with_reducible refine gate_dst (N := 1) rfl ?_); refine box_event ?hg (N := 1) ?hd (cs := #[.int .u32 a0_0, .int .i64 a0_1]) (t := 45) ?hr ?_; (case hd => rfl); (case hg => rfl); (case hr => first | (go_simp; done) | (go_simp; rfl)); intro gb165 hg w4 hbox hb; have n0_ := Aside0.mk (below_step (by repeat (first | (with_reducible first | exact HB.out | apply below_alloc | apply pw_below_drewN | apply below_drew1) | exact HB.out)) hb); have n1_ := Aside0.mk (hbox); have n2_ := Aside0.mk ((by rw [hg]; exact (below_size (by repeat (first | (with_reducible first | exact HB.out | apply below_alloc | apply pw_below_drewN | apply below_drew1) | exact HB.out))) : w.heap.size ≤ gb165)); have n3_ := Aside0.mk ((by rw [hg]; exact (below_size (by repeat (first | (with_reducible first | exact HB.out | apply below_alloc | apply pw_below_drewN | apply below_drew1) | exact HB.out))) : w.heap.size ≤ gb165)); clear HB; have HB := n0_; have BK165 := n1_; have GW165 := n2_; have GE165 := n3_; clear n0_ n1_ n2_ n3_; clear hb hbox hg; have hcz5_0 : w4.cell? ⟨gb165, 0, none⟩ = some (.int .u32 a0_0) := (blk_cell BK165.out 0).trans rfl; have hcz5_1 : w4.cell? ⟨gb165, 1, none⟩ = some (.int .i64 a0_1) := (blk_cell BK165.out 1).trans rfl; have hfz5_0 := blk_frozen BK165.out 0; have hfz5_1 := blk_frozen BK165.out 1))
      go_ret
      exact ⟨by first | rfl | (simp [errW_none, errW_some] <;> rfl) | (simp [*, errW_none, errW_some] <;> rfl), by repeat (first | (with_reducible first | exact HB.out | apply below_alloc | apply pw_below_drewN | apply below_drew1 | refine below_set ?_ GE165.out) | exact HB.out)⟩
    · rw [if_neg c3] at H
      have c3b0 : decide (0 < a0_1) = false := decide_eq_false c3
      clear c3
      obtain rfl := Option.some.inj H
      go_enter Try.func30, Try.ntmps30
      go_wp2_with (first | ((with_reducible refine gate_dst (N := 1) rfl ?_); refine box_event ?hg (N := 1) ?hd (cs := #[.int .u32 a0_0, .int .i64 a0_1]) (t := 45) ?hr ?_; (case hd => rfl); (case hg => rfl); (case hr => first | (go_simp; done) | (go_simp; rfl)); intro gb165 hg w6 hbox hb; have n0_ := Aside0.mk (below_step (by repeat (first | (with_reducible first | exact HB.out | apply below_alloc | apply pw_below_drewN | apply below_drew1) | exact HB.out)) hb); have n1_ := Aside0.mk (hbox); have n2_ := Aside0.mk ((by rw [hg]; exact (below_size (by repeat (first | (with_reducible first | exact HB.out | apply below_alloc | apply pw_below_drewN | apply below_drew1) | exact HB.out))) : w.heap.size ≤ gb165)); have n3_ := Aside0.mk ((by rw [hg]; exact (below_size (by repeat (first | (with_reducible first | exact HB.out | apply below_alloc | apply pw_below_drewN | apply below_drew1) | exact HB.out))) : w.heap.size ≤ gb165)); clear HB; have HB := n0_; have BK165 := n1_; have GW165 := n2_; have GE165 := n3_; clear n0_ n1_ n2_ n3_; clear hb hbox hg; have hcz7_0 : w6.cell? ⟨gb165, 0, none⟩ = some (.int .u32 a0_0) := (blk_cell BK165.out 0).trans rfl; have hcz7_1 : w6.cell? ⟨gb165, 1, none⟩ = some (.int .i64 a0_1) := (blk_cell BK165.out 1).trans rfl; have hfz7_0 := blk_frozen BK165.out 0; have hfz7_1 := blk_frozen BK165.out 1))
      go_ret
      exact ⟨by first | rfl | (simp [errW_none, errW_some] <;> rfl) | (simp [*, errW_none, errW_some] <;> rfl), by repeat (first | (with_reducible first | exact HB.out | apply below_alloc | apply pw_below_drewN | apply below_drew1 | refine below_set ?_ GE165.out) | exact HB.out)⟩
  · rw [if_neg c2] at H
    have c2b0 : decide (0 < a0_0) = false := decide_eq_false c2
    clear c2
    obtain rfl := Option.some.inj H
    go_enter Try.func30, Try.ntmps30
    go_wp2_with (first | ((with_reducible refine gate_dst (N := 1) rfl ?_); refine box_event ?hg (N := 1) ?hd (cs := #[.int .u32 a0_0, .int .i64 a0_1]) (t := 45) ?hr ?_; (case hd => rfl); (case hg => rfl); (case hr => first | (go_simp; done) | (go_simp; rfl)); intro gb165 hg w8 hbox hb; have n0_ := Aside0.mk (below_step (by repeat (first | (with_reducible first | exact HB.out | apply below_alloc | apply pw_below_drewN | apply below_drew1) | exact HB.out)) hb); have n1_ := Aside0.mk (hbox); have n2_ := Aside0.mk ((by rw [hg]; exact (below_size (by repeat (first | (with_reducible first | exact HB.out | apply below_alloc | apply pw_below_drewN | apply below_drew1) | exact HB.out))) : w.heap.size ≤ gb165)); have n3_ := Aside0.mk ((by rw [hg]; exact (below_size (by repeat (first | (with_reducible first | exact HB.out | apply below_alloc | apply pw_below_drewN | apply below_drew1) | exact HB.out))) : w.heap.size ≤ gb165)); clear HB; have HB := n0_; have BK165 := n1_; have GW165 := n2_; have GE165 := n3_; clear n0_ n1_ n2_ n3_; clear hb hbox hg; have hcz9_0 : w8.cell? ⟨gb165, 0, none⟩ = some (.int .u32 a0_0) := (blk_cell BK165.out 0).trans rfl; have hcz9_1 : w8.cell? ⟨gb165, 1, none⟩ = some (.int .i64 a0_1) := (blk_cell BK165.out 1).trans rfl; have hfz9_0 := blk_frozen BK165.out 0; have hfz9_1 := blk_frozen BK165.out 1))
    go_ret
    exact ⟨by first | rfl | (simp [errW_none, errW_some] <;> rfl) | (simp [*, errW_none, errW_some] <;> rfl), by repeat (first | (with_reducible first | exact HB.out | apply below_alloc | apply pw_below_drewN | apply below_drew1 | refine below_set ?_ GE165.out) | exact HB.out)⟩

/-! ### embrasureref03_Bytes: function 32 -/
def embrasureref03_Bytes.f (a0_0 : Int) (a0_1 : Int) : Option (List Int) := (embrasureref03_May.f a0_0 a0_1).bind fun t167 => (if t167 = true then (some (([((Int.tdiv a0_0 16777216) % 4294967296) % 256, ((Int.tdiv a0_0 65536) % 4294967296) % 256, ((Int.tdiv a0_0 256) % 4294967296) % 256, (Int.tmod a0_0 256) % 256, (wrap64 (Int.tdiv a0_1 256)) % 256, (Int.tmod a0_1 256) % 256] : List Int))) else (some ([] : List Int)))
set_option maxHeartbeats 8000000 in
set_option maxRecDepth 100000 in
theorem embrasureref03_Bytes.calls (a0_0 : Int) (a0_1 : Int) (r : List Int) (w : World) (h : embrasureref03_Bytes.f a0_0 a0_1 = some r) :
    Calls Try.prog 32 #[.agg #[.int .u32 a0_0, .int .i64 a0_1]] w fun e w' => ∃ v0_ : Value, e = .returned (v0_) ∧ Kd.R (Kd.int .u8) 5 w' w.heap.size (fun _ => True) v0_ r ∧ Below w.heap.size w w' := by
  have hu45 := Try.underlying45
  have HB := Aside0.mk (Below.refl w.heap.size w)
  have H : ((embrasureref03_May.f a0_0 a0_1).bind fun t167 => (if t167 = true then (some (([((Int.tdiv a0_0 16777216) % 4294967296) % 256, ((Int.tdiv a0_0 65536) % 4294967296) % 256, ((Int.tdiv a0_0 256) % 4294967296) % 256, (Int.tmod a0_0 256) % 256, (wrap64 (Int.tdiv a0_1 256)) % 256, (Int.tmod a0_1 256) % 256] : List Int))) else (some ([] : List Int)))) = some r := h
  clear h
  replace H := Option.bind_eq_some_iff.mp H
  obtain ⟨t167, A20, H⟩ := H
  replace H : (if t167 = true then (some (([((Int.tdiv a0_0 16777216) % 4294967296) % 256, ((Int.tdiv a0_0 65536) % 4294967296) % 256, ((Int.tdiv a0_0 256) % 4294967296) % 256, (Int.tmod a0_0 256) % 256, (wrap64 (Int.tdiv a0_1 256)) % 256, (Int.tmod a0_1 256) % 256] : List Int))) else (some ([] : List Int))) = some r := H
  have A2 := Aside0.mk A20
  clear A20
  by_cases c3 : t167 = true
  · subst c3
    have H1 : (some (([((Int.tdiv a0_0 16777216) % 4294967296) % 256, ((Int.tdiv a0_0 65536) % 4294967296) % 256, ((Int.tdiv a0_0 256) % 4294967296) % 256, (Int.tmod a0_0 256) % 256, (wrap64 (Int.tdiv a0_1 256)) % 256, (Int.tmod a0_1 256) % 256] : List Int))) = some r := by rw [if_pos rfl] at H; exact H
    clear H
    have H := H1
    clear H1
    obtain ⟨y168, hy168⟩ : ∃ y_ : List Int, y_ = (([((Int.tdiv a0_0 16777216) % 4294967296) % 256, ((Int.tdiv a0_0 65536) % 4294967296) % 256, ((Int.tdiv a0_0 256) % 4294967296) % 256, (Int.tmod a0_0 256) % 256, (wrap64 (Int.tdiv a0_1 256)) % 256, (Int.tmod a0_1 256) % 256] : List Int)) := ⟨_, rfl⟩
    replace H : (some y168) = some r := by first | (rw [hy168]; with_reducible exact H) | (have H2_ := (Option.bind_some _ _).symm.trans H; rw [hy168]; with_reducible exact H2_) | (have H2_ := (Option.bind_some _ _).symm.trans H; with_reducible exact H2_) | with_reducible exact H | (rw [hy168]; exact H) | exact H
    have Ny168 := Aside0.mk hy168
    clear hy168
    obtain rfl := Option.some.inj H
    go_enter Try.func32, Try.ntmps32
    go_wp2_with (first | ((with_reducible refine gate_dst (N := 1) rfl ?_); refine box_event ?hg (N := 1) ?hd (cs := #[.int .u32 a0_0, .int .i64 a0_1]) (t := 45) ?hr ?_; (case hd => rfl); (case hg => rfl); (case hr => first | (go_simp; done) | (go_simp; rfl)); intro gb166 hg w4 hbox hb; have n0_ := Aside0.mk (below_step (by repeat (first | (with_reducible first | exact HB.out | apply below_alloc | apply pw_below_drewN | apply below_drew1) | exact HB.out)) hb); have n1_ := Aside0.mk (hbox); have n2_ := Aside0.mk ((by rw [hg]; exact (below_size (by repeat (first | (with_reducible first | exact HB.out | apply below_alloc | apply pw_below_drewN | apply below_drew1) | exact HB.out))) : w.heap.size ≤ gb166)); have n3_ := Aside0.mk ((by rw [hg]; exact (below_size (by repeat (first | (with_reducible first | exact HB.out | apply below_alloc | apply pw_below_drewN | apply below_drew1) | exact HB.out))) : w.heap.size ≤ gb166)); clear HB; have HB := n0_; have BK166 := n1_; have GW166 := n2_; have GE166 := n3_; clear n0_ n1_ n2_ n3_; clear hb hbox hg; have hcz5_0 : w4.cell? ⟨gb166, 0, none⟩ = some (.int .u32 a0_0) := (blk_cell BK166.out 0).trans rfl; have hcz5_1 : w4.cell? ⟨gb166, 1, none⟩ = some (.int .i64 a0_1) := (blk_cell BK166.out 1).trans rfl; have hfz5_0 := blk_frozen BK166.out 0; have hfz5_1 := blk_frozen BK166.out 1) | ((with_reducible refine gate_callee (f := 30) rfl ?_); refine goesL_ (some 4) rfl rfl Try.func30 (by kernel_rfl) rfl #[.agg #[.int .u32 a0_0, .int .i64 a0_1]] rfl (by (try simp only [List.map_toArray, List.map_cons, List.map_nil]); first | done | rfl | (simp only [List.length_drop, List.length_take]; rfl)) ?_; (with_reducible refine (embrasureref03_May.calls a0_0 a0_1 true _ A2.out).mono ?_); rintro e w6 ⟨rfl, hb⟩; refine ⟨_, rfl, ?_⟩; have n0_ := Aside0.mk (blk_below (g := gb166) (o := .cells #[.int .u32 a0_0, .int .i64 a0_1] 45 (0, 0)) (by (with_reducible repeat (first | refine blk_drewN ?_ _ | refine blk_drew ?_ | refine blk_alloc ?_ _)); exact BK166.out) hb); have n1_ := Aside0.mk (below_step (by repeat (first | (with_reducible first | exact HB.out | apply below_alloc | apply pw_below_drewN | apply below_drew1 | refine below_set ?_ GE166.out) | exact HB.out)) hb); clear BK166; clear HB; have BK166 := n0_; have HB := n1_; clear n0_ n1_; (try clear hb); (try clear hb2); (try clear hk); (try clear hi); have hcz7_0 : w6.cell? ⟨gb166, 0, none⟩ = some (.int .u32 a0_0) := (blk_cell BK166.out 0).trans rfl; have hcz7_1 : w6.cell? ⟨gb166, 1, none⟩ = some (.int .i64 a0_1) := (blk_cell BK166.out 1).trans rfl; have hfz7_0 := blk_frozen BK166.out 0; have hfz7_1 := blk_frozen BK166.out 1) | ((with_reducible refine gate_dst (N := 32) rfl ?_); refine Kd.R_lit (Kd.int .u8) _ 5 ?hg (N := 32) ?hd (xs := ([((Int.tdiv a0_0 16777216) % 4294967296) % 256, ((Int.tdiv a0_0 65536) % 4294967296) % 256, ((Int.tdiv a0_0 256) % 4294967296) % 256, (Int.tmod a0_0 256) % 256, (wrap64 (Int.tdiv a0_1 256)) % 256, (Int.tmod a0_1 256) % 256] : List Int)) (inner := [.int .u8 (((Int.tdiv a0_0 16777216) % 4294967296) % 256), .int .u8 (((Int.tdiv a0_0 65536) % 4294967296) % 256), .int .u8 (((Int.tdiv a0_0 256) % 4294967296) % 256), .int .u8 ((Int.tmod a0_0 256) % 256), .int .u8 ((wrap64 (Int.tdiv a0_1 256)) % 256), .int .u8 ((Int.tmod a0_1 256) % 256)]) (ok := fun _ => True) (okp := fun _ => True) ?hr ?hp (fun _ hk => hk) trivial (Below.refl _ _) (Nat.le_refl _) (by simp) ?_; (case hd => rfl); (case hg => rfl); (case hr => first | (go_simp; done) | (go_simp; rfl)); (case hp => exact (Reps.one (show Kd.M (Kd.int .u8) _ _ _ (((Int.tdiv a0_0 16777216) % 4294967296) % 256) [.int .u8 (((Int.tdiv a0_0 16777216) % 4294967296) % 256)] from rfl) (Reps.one (show Kd.M (Kd.int .u8) _ _ _ (((Int.tdiv a0_0 65536) % 4294967296) % 256) [.int .u8 (((Int.tdiv a0_0 65536) % 4294967296) % 256)] from rfl) (Reps.one (show Kd.M (Kd.int .u8) _ _ _ (((Int.tdiv a0_0 256) % 4294967296) % 256) [.int .u8 (((Int.tdiv a0_0 256) % 4294967296) % 256)] from rfl) (Reps.one (show Kd.M (Kd.int .u8) _ _ _ ((Int.tmod a0_0 256) % 256) [.int .u8 ((Int.tmod a0_0 256) % 256)] from rfl) (Reps.one (show Kd.M (Kd.int .u8) _ _ _ ((wrap64 (Int.tdiv a0_1 256)) % 256) [.int .u8 ((wrap64 (Int.tdiv a0_1 256)) % 256)] from rfl) (Reps.one (show Kd.M (Kd.int .u8) _ _ _ ((Int.tmod a0_1 256) % 256) [.int .u8 ((Int.tmod a0_1 256) % 256)] from rfl) (Reps.none _ _)))))))); intro v169 w8 ho9 hb hg_ hnew_; clear hg_ hnew_; (first | rw [← Ny168.out] at ho9 | (simp only [Int.reduceToNat] at ho9; rw [← Ny168.out] at ho9)); have n0_ := Aside0.mk (Kd.R_lower ho9 (below_size (by repeat (first | (with_reducible first | exact HB.out | apply below_alloc | apply pw_below_drewN | apply below_drew1 | refine below_set ?_ GE166.out) | exact HB.out)))); have n1_ := Aside0.mk (blk_below (g := gb166) (o := .cells #[.int .u32 a0_0, .int .i64 a0_1] 45 (0, 0)) (by (with_reducible repeat (first | refine blk_drewN ?_ _ | refine blk_drew ?_ | refine blk_alloc ?_ _)); exact BK166.out) hb); have n2_ := Aside0.mk (below_step (by repeat (first | (with_reducible first | exact HB.out | apply below_alloc | apply pw_below_drewN | apply below_drew1 | refine below_set ?_ GE166.out) | exact HB.out)) hb); clear BK166; clear HB; have HO170 := n0_; have BK166 := n1_; have HB := n2_; clear n0_ n1_ n2_; clear hb ho9))
    go_ret
    exact ⟨_, by first | rfl | (simp [errW_none, errW_some] <;> rfl) | (simp [*, errW_none, errW_some] <;> rfl), by (with_reducible repeat (first | apply Kd.R_alloc | apply Kd.R_drewN | apply Kd.R_drew)); exact HO170.out, by repeat (first | (with_reducible first | exact HB.out | apply below_alloc | apply pw_below_drewN | apply below_drew1 | refine below_set ?_ GE166.out) | exact HB.out)⟩
  · replace c3 := Bool.eq_false_iff.mpr c3
    subst c3
    have H1 : (some ([] : List Int)) = some r := by rw [if_neg (show ¬ (false = true) by decide)] at H; exact H
    clear H
    have H := H1
    clear H1
    obtain rfl := Option.some.inj H
    go_enter Try.func32, Try.ntmps32
    go_wp2_with (first | ((with_reducible refine gate_dst (N := 1) rfl ?_); refine box_event ?hg (N := 1) ?hd (cs := #[.int .u32 a0_0, .int .i64 a0_1]) (t := 45) ?hr ?_; (case hd => rfl); (case hg => rfl); (case hr => first | (go_simp; done) | (go_simp; rfl)); intro gb166 hg w10 hbox hb; have n0_ := Aside0.mk (below_step (by repeat (first | (with_reducible first | exact HB.out | apply below_alloc | apply pw_below_drewN | apply below_drew1) | exact HB.out)) hb); have n1_ := Aside0.mk (hbox); have n2_ := Aside0.mk ((by rw [hg]; exact (below_size (by repeat (first | (with_reducible first | exact HB.out | apply below_alloc | apply pw_below_drewN | apply below_drew1) | exact HB.out))) : w.heap.size ≤ gb166)); have n3_ := Aside0.mk ((by rw [hg]; exact (below_size (by repeat (first | (with_reducible first | exact HB.out | apply below_alloc | apply pw_below_drewN | apply below_drew1) | exact HB.out))) : w.heap.size ≤ gb166)); clear HB; have HB := n0_; have BK166 := n1_; have GW166 := n2_; have GE166 := n3_; clear n0_ n1_ n2_ n3_; clear hb hbox hg; have hcz11_0 : w10.cell? ⟨gb166, 0, none⟩ = some (.int .u32 a0_0) := (blk_cell BK166.out 0).trans rfl; have hcz11_1 : w10.cell? ⟨gb166, 1, none⟩ = some (.int .i64 a0_1) := (blk_cell BK166.out 1).trans rfl; have hfz11_0 := blk_frozen BK166.out 0; have hfz11_1 := blk_frozen BK166.out 1) | ((with_reducible refine gate_callee (f := 30) rfl ?_); refine goesL_ (some 4) rfl rfl Try.func30 (by kernel_rfl) rfl #[.agg #[.int .u32 a0_0, .int .i64 a0_1]] rfl (by (try simp only [List.map_toArray, List.map_cons, List.map_nil]); first | done | rfl | (simp only [List.length_drop, List.length_take]; rfl)) ?_; (with_reducible refine (embrasureref03_May.calls a0_0 a0_1 false _ A2.out).mono ?_); rintro e w12 ⟨rfl, hb⟩; refine ⟨_, rfl, ?_⟩; have n0_ := Aside0.mk (blk_below (g := gb166) (o := .cells #[.int .u32 a0_0, .int .i64 a0_1] 45 (0, 0)) (by (with_reducible repeat (first | refine blk_drewN ?_ _ | refine blk_drew ?_ | refine blk_alloc ?_ _)); exact BK166.out) hb); have n1_ := Aside0.mk (below_step (by repeat (first | (with_reducible first | exact HB.out | apply below_alloc | apply pw_below_drewN | apply below_drew1 | refine below_set ?_ GE166.out) | exact HB.out)) hb); clear BK166; clear HB; have BK166 := n0_; have HB := n1_; clear n0_ n1_; (try clear hb); (try clear hb2); (try clear hk); (try clear hi)))
    go_ret
    exact ⟨_, by first | rfl | (simp [errW_none, errW_some] <;> rfl) | (simp [*, errW_none, errW_some] <;> rfl), by first | exact Kd.R_nil _ _ _ _ _ | exact Kd.N_nil _ _ _ _ _ | exact Kd.V_nil _ _ _ _ _ | exact Kd.Q_nil _ _ _ _ _ | exact Kd.S_nil _ _ _ _ _, by repeat (first | (with_reducible first | exact HB.out | apply below_alloc | apply pw_below_drewN | apply below_drew1 | refine below_set ?_ GE166.out) | exact HB.out)⟩

/-! ### embrasureref03_FromBytes: function 39 -/
def hostV (l : List Int) : Int := rd l 0 * 16777216 + rd l 1 * 65536 + rd l 2 * 256 + rd l 3
def portV (l : List Int) : Int := rd l 4 * 256 + rd l 5
def addrV (l : List Int) : Int × Int × Int := if l.length = 6 then (if 1 ≤ hostV l ∧ 1 ≤ portV l then (hostV l, portV l, 0) else (0, 0, 3)) else (0, 0, 3)
def embrasureref03_FromBytes.f (l0 : List Int) : Option (Int × Int × Int) := if ∀ x ∈ l0, 0 ≤ x ∧ x ≤ 255 then some (addrV l0) else none
theorem fb_after {w0 w1 : World} {g : Nat} {X Y : Int} (hg : w0.heap[g]? = some (.cells #[.int .u32 0, .int .i64 0] 45 (0, 0))) (hb : Below (w0.alloc (.cells #[.int .u32 X, .int .i64 Y] 45)).drew.heap.size (w0.alloc (.cells #[.int .u32 X, .int .i64 Y] 45)).drew w1) :
    w1.cell? ⟨w0.heap.size, 0, none⟩ = some (.int .u32 X) ∧ w1.cell? ⟨w0.heap.size, 1, none⟩ = some (.int .i64 Y) ∧ w1.heap[g]? = some (.cells #[.int .u32 0, .int .i64 0] 45 (0, 0)) ∧ Below w0.heap.size w0 w1 := by
  have hs : (w0.alloc (.cells #[.int .u32 X, .int .i64 Y] 45)).drew.heap.size = w0.heap.size + 1 := by simp
  have e1 : w1.heap[w0.heap.size]? = some (.cells #[.int .u32 X, .int .i64 Y] 45 (0, 0)) := (hb.block _ (by omega)).trans (heap_alloc_new w0 _)
  have hlt : g < w0.heap.size := (Array.getElem?_eq_some_iff.1 hg).1
  refine ⟨(blk_cell e1 0).trans rfl, (blk_cell e1 1).trans rfl, (hb.block _ (by omega)).trans ((Below.heap_alloc w0 _ g hlt).trans hg), ?_⟩
  exact (((Below.refl _ w0).alloc (Nat.le_refl _) _).drew).trans (hb.mono (by omega))
set_option maxRecDepth 100000 in
set_option maxHeartbeats 2000000 in
theorem embrasureref03_FromBytes.calls (A0 : Option Addr) (c0 : Nat) (l0 : List Int) (r1 : Int) (r2 : Int) (r3 : Int) (w : World) (hr0 : Kd.C (Kd.int .u8) w A0 l0.length l0) (hc0 : l0.length ≤ c0) (h : embrasureref03_FromBytes.f l0 = some (r1, r2, r3)) :
    Calls Try.prog 39 #[.slice A0 l0.length c0] w fun e w' => e = .returned (.tuple #[.agg #[.int .u32 r1, .int .i64 r2], .int .i64 r3]) ∧ Below w.heap.size w w' := by
  unfold embrasureref03_FromBytes.f at h
  by_cases hb : ∀ x ∈ l0, 0 ≤ x ∧ x ≤ 255
  · rw [if_pos hb] at h
    injection h with h
    unfold addrV at h
    by_cases h6 : l0.length = 6
    · rw [if_pos h6] at h
      have hx : ∀ i : Nat, i < 6 → ∃ b, rd l0 (i : Int) = b ∧ 0 ≤ b ∧ b ≤ 255 := fun i hi => ⟨_, rfl, hb _ (by unfold rd; rw [Int.toNat_natCast, List.getD, List.getElem?_eq_getElem (by omega)]; exact List.getElem_mem _)⟩
      have hat : ∀ i : Nat, i < 6 → ∃ ad, A0 = some ad ∧ w.cell? (ad.add i) = some (.int .u8 (rd l0 (i : Int))) := fun i hi => by
        have := Kd.at_int hr0 (i : Int) (by omega) (by omega)
        rwa [Int.toNat_natCast] at this
      obtain ⟨ad, rfl, d0⟩ := hat 0 (by omega)
      obtain ⟨_, e1, d1⟩ := hat 1 (by omega)
      injection e1 with e1
      subst e1
      obtain ⟨_, e1, d2⟩ := hat 2 (by omega)
      injection e1 with e1
      subst e1
      obtain ⟨_, e1, d3⟩ := hat 3 (by omega)
      injection e1 with e1
      subst e1
      obtain ⟨_, e1, d4⟩ := hat 4 (by omega)
      injection e1 with e1
      subst e1
      obtain ⟨_, e1, d5⟩ := hat 5 (by omega)
      injection e1 with e1
      subst e1
      obtain ⟨b0, x0, y0, z0⟩ := hx 0 (by omega)
      obtain ⟨b1, x1, y1, z1⟩ := hx 1 (by omega)
      obtain ⟨b2, x2, y2, z2⟩ := hx 2 (by omega)
      obtain ⟨b3, x3, y3, z3⟩ := hx 3 (by omega)
      obtain ⟨b4, x4, y4, z4⟩ := hx 4 (by omega)
      obtain ⟨b5, x5, y5, z5⟩ := hx 5 (by omega)
      rw [x0] at d0
      rw [x1] at d1
      rw [x2] at d2
      rw [x3] at d3
      rw [x4] at d4
      rw [x5] at d5
      obtain ⟨X, hX⟩ : ∃ X, hostV l0 = X := ⟨_, rfl⟩
      obtain ⟨Y, hY⟩ : ∃ Y, portV l0 = Y := ⟨_, rfl⟩
      rw [hX, hY] at h
      have hX2 : b0 * 16777216 + b1 * 65536 + b2 * 256 + b3 = X := by rw [← hX, ← x0, ← x1, ← x2, ← x3]; rfl
      have hY2 : b4 * 256 + b5 = Y := by rw [← hY, ← x4, ← x5]; rfl
      have m0 : b0 % 4294967296 = b0 := by omega
      have m1 : b1 % 4294967296 = b1 := by omega
      have m2 : b2 % 4294967296 = b2 := by omega
      have hX3 : (b0 * 16777216 + b1 * 65536 + b2 * 256 + b3) % 4294967296 = X := by omega
      have KM := Lib.hid (fun (W : World) => embrasureref03_May.calls X Y (decide (1 ≤ X ∧ 1 ≤ Y)) W (by
        unfold embrasureref03_May.f
        by_cases p : 1 ≤ X
        · by_cases q : 1 ≤ Y
          · rw [if_pos (by omega), if_pos (by omega), decide_eq_true (show 1 ≤ X ∧ 1 ≤ Y from ⟨p, q⟩), decide_eq_true (show Y < 65536 by omega)]
          · rw [if_pos (by omega), if_neg (by omega), decide_eq_false (fun h => q h.2)]
        · rw [if_neg (by omega), decide_eq_false (fun h => p h.1)]))
      have H := Lib.hid h
      have B6 : ((l0.length : Int) != 6) = false := by rw [h6]; rfl
      have n0 : 0 < l0.length := by omega
      have i0 : (0 : Int) < (l0.length : Int) := by omega
      have i1 : (1 : Int) < (l0.length : Int) := by omega
      have i2 : (2 : Int) < (l0.length : Int) := by omega
      have i3 : (3 : Int) < (l0.length : Int) := by omega
      have i4 : (4 : Int) < (l0.length : Int) := by omega
      have i5 : (5 : Int) < (l0.length : Int) := by omega
      clear x0 x1 x2 x3 x4 x5 hX hY hat hx h h6 hb hr0
      obtain ⟨w0, hw0⟩ : ∃ w0, w.alloc (.cells #[.int .u32 0, .int .i64 0] 45) = w0 := ⟨_, rfl⟩
      have hb0 : Below w.heap.size w w0 := by rw [← hw0]; exact (Below.refl _ _).alloc (Nat.le_refl _) _
      have hg0 : w0.heap[w.heap.size]? = some (.cells #[.int .u32 0, .int .i64 0] 45 (0, 0)) := by rw [← hw0]; exact heap_alloc_new w _
      have HC := Lib.hid (show ∀ W, Below w.heap.size w W → W.cell? ad = some (.int .u8 b0) ∧ W.cell? ⟨ad.block, ad.off + 1, none⟩ = some (.int .u8 b1) ∧ W.cell? ⟨ad.block, ad.off + 2, none⟩ = some (.int .u8 b2) ∧ W.cell? ⟨ad.block, ad.off + 3, none⟩ = some (.int .u8 b3) ∧ W.cell? ⟨ad.block, ad.off + 4, none⟩ = some (.int .u8 b4) ∧ W.cell? ⟨ad.block, ad.off + 5, none⟩ = some (.int .u8 b5) from fun W hW => by
        rw [show ad.add 0 = ad by simp [Addr.add]] at d0
        exact ⟨(hW.cell (World.block_lt_of_cell? _ _ d0)).trans d0, (hW.cell (World.block_lt_of_cell? _ _ d1)).trans d1, (hW.cell (World.block_lt_of_cell? _ _ d2)).trans d2, (hW.cell (World.block_lt_of_cell? _ _ d3)).trans d3, (hW.cell (World.block_lt_of_cell? _ _ d4)).trans d4, (hW.cell (World.block_lt_of_cell? _ _ d5)).trans d5⟩)
      obtain ⟨f0, f1, f2, f3, f4, f5⟩ := HC.out w0 hb0
      have HB0 := Lib.hid hb0
      have HG0 := Lib.hid hg0
      clear d0 d1 d2 d3 d4 d5 hb0 hg0
      go_enter Try.func39, Try.ntmps39
      go_upto_region 3 with fail
      clear hw0
      have hs0 : w.heap.size < w0.heap.size := (Array.getElem?_eq_some_iff.1 HG0.out).1
      have HS0 := Lib.hid hs0
      go_region_held3 (fun w' => w'.cell? ad = some (.int .u8 b0) ∧ w'.cell? ⟨ad.block, ad.off + 1, none⟩ = some (.int .u8 b1) ∧ w'.cell? ⟨ad.block, ad.off + 2, none⟩ = some (.int .u8 b2) ∧ w'.cell? ⟨ad.block, ad.off + 3, none⟩ = some (.int .u8 b3) ∧ w'.cell? ⟨ad.block, ad.off + 4, none⟩ = some (.int .u8 b4) ∧ w'.cell? ⟨ad.block, ad.off + 5, none⟩ = some (.int .u8 b5))
        ((refine HC.out _ ?_; repeat (first | exact HB0.out | refine Below.drew ?_ | refine Below.alloc ?_ (by have := HS0.out; simp; omega) _ | refine Below.setCell ?_ (by have := HS0.out; simp; omega) _ | exact HB0.out.drew))) (fail)
      by_cases hp : 1 ≤ X ∧ 1 ≤ Y
      · have hh := H.out
        rw [if_pos hp] at hh
        injection hh with h1 h2
        injection h2 with h2 h3
        subst h1 h2 h3
        have KM := fun W => KM.out W
        rw [decide_eq_true hp] at KM
        clear hp
        go_wp2_with (go_at_call 30; refine (KM _).mono ?_; rintro e w1 ⟨rfl, hb1⟩; obtain ⟨c1, c2, k0, hb2⟩ := fb_after HG0.out hb1; have K0 := Lib.hid k0; have HB2 := Lib.hid (HB0.out.trans (hb2.mono (Nat.le_of_lt HS0.out))); have q0 := (blk_cell k0 0).trans rfl; have q1 := (blk_cell k0 1).trans rfl; have q2 := blk_frozen k0 0; have q3 := blk_frozen k0 1; clear hb1 hb2 k0)
        refine bodyPost_ret (results_ct rfl _ _ w.heap.size 45 #[.int .u32 X, .int .i64 Y] (0, 0) _ rfl (blk_put (blk_put K0.out 0 _ rfl) 1 _ rfl) Try.underlying45 rfl (by kernel_rfl)) rfl ?_
        exact ⟨rfl, (HB2.out.setCell (p := ⟨w.heap.size, 0, none⟩) (Nat.le_refl _) _).setCell (p := ⟨w.heap.size, 1, none⟩) (Nat.le_refl _) _⟩
      · have hh := H.out
        rw [if_neg hp] at hh
        injection hh with h1 h2
        injection h2 with h2 h3
        subst h1 h2 h3
        have KM := fun W => KM.out W
        rw [decide_eq_false hp] at KM
        clear hp
        go_wp2_with (go_at_call 30; refine (KM _).mono ?_; rintro e w1 ⟨rfl, hb1⟩; obtain ⟨c1, c2, k0, hb2⟩ := fb_after HG0.out hb1; have K0 := Lib.hid k0; have HB2 := Lib.hid (HB0.out.trans (hb2.mono (Nat.le_of_lt HS0.out))); have q0 := (blk_cell k0 0).trans rfl; have q1 := (blk_cell k0 1).trans rfl; have q2 := blk_frozen k0 0; have q3 := blk_frozen k0 1; clear hb1 hb2 k0)
        refine bodyPost_ret (results_ct rfl _ _ w.heap.size 45 #[.int .u32 0, .int .i64 0] (0, 0) _ rfl (blk_put (blk_put K0.out 0 _ rfl) 1 _ rfl) Try.underlying45 rfl (by kernel_rfl)) rfl ?_
        exact ⟨rfl, (HB2.out.setCell (p := ⟨w.heap.size, 0, none⟩) (Nat.le_refl _) _).setCell (p := ⟨w.heap.size, 1, none⟩) (Nat.le_refl _) _⟩
    · rw [if_neg h6] at h
      injection h with h1 h2
      injection h2 with h2 h3
      subst h1 h2 h3
      have B6 : ((l0.length : Int) != 6) = true := by simp; omega
      clear h6 hb hr0
      go_enter Try.func39, Try.ntmps39
      go_wp2
      refine bodyPost_ret (results_ct rfl _ _ w.heap.size 45 #[.int .u32 0, .int .i64 0] (0, 0) _ rfl (heap_alloc_new w _) Try.underlying45 rfl (by kernel_rfl)) rfl ?_
      exact ⟨rfl, (Below.refl _ _).alloc (Nat.le_refl _) _⟩
  · rw [if_neg hb] at h; cases h

end Go.Proofs.Ytklcggcejaecdaa.H
