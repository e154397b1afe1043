/-
  What the waits, their sums and the reference's times come to, in plain Lean: for every plan.
-/
import Derived.Test.YtnhlmmiocbkpjaaPBackTimesx2
import Derived.OpenShut
import Derived.Shelf.Abstract
namespace Go.Proofs.Ytnhlmmiocbkpjaa.Tm
open Go.RowKit Go.Shelf Go.Proofs.Ytnhlmmiocbkpjaa.PBackTimes Go.Proofs.YtnhlmmiocbkpjaaW.PrintWords Go.Proofs.YtnhlmmiocbkpjaaW.PrintLast Go.Proofs.YtnhlmmiocbkpjaaW.PrintMore

/-! ### plain: the wait behind n tries, beginning at w -/
def it (m : Int) : Int → Nat → Int
  | w, 0 => w
  | w, n + 1 => it m (mn (2 * w) m) n

theorem mn_le (a b : Int) : mn a b ≤ b ∧ mn a b ≤ a ∧ (mn a b = a ∨ mn a b = b) := by unfold mn; split <;> omega

theorem it_m (m : Int) (h : 1 ≤ m) : ∀ n, it m m n = m
  | 0 => rfl
  | n + 1 => by
    have : mn (2 * m) m = m := by unfold mn; rw [if_pos (by omega)]
    rw [it, this, it_m m h n]

theorem it_succ (m : Int) : ∀ (n : Nat) (w : Int), it m w (n + 1) = mn (2 * it m w n) m
  | 0, w => rfl
  | n + 1, w => by rw [it, it_succ m n, it]

theorem it_bd (m w : Int) (h1 : 1 ≤ w) (h2 : w ≤ m) : ∀ n, w ≤ it m w n ∧ it m w n ≤ m
  | 0 => ⟨Int.le_refl _, h2⟩
  | n + 1 => by
    have := it_bd m w h1 h2 n
    rw [it_succ]
    have := mn_le (2 * it m w n) m
    omega

theorem it_mono1 (m w : Int) (h1 : 1 ≤ w) (h2 : w ≤ m) (n : Nat) : it m w n ≤ it m w (n + 1) := by
  have := it_bd m w h1 h2 n
  rw [it_succ]
  have := mn_le (2 * it m w n) m
  omega

theorem it_pow (m w : Int) (h1 : 1 ≤ w) (h2 : w ≤ m) : ∀ n : Nat, it m w n = m ∨ ((2 ^ n : Nat) : Int) ≤ it m w n
  | 0 => .inr (by simp [it]; omega)
  | n + 1 => by
    have hb := it_bd m w h1 h2 n
    rw [it_succ]
    rcases it_pow m w h1 h2 n with h | h
    · left; rw [h]; unfold mn; rw [if_pos (by omega)]
    · have := mn_le (2 * it m w n) m
      rcases this.2.2 with e | e
      · right; rw [e, Nat.pow_succ]; omega
      · left; exact e

theorem it_top (m w : Int) (h1 : 1 ≤ w) (h2 : w ≤ m) (h3 : m ≤ 1099511627776) (n : Nat) (hn : 41 ≤ n) : it m w n = m := by
  have base : it m w 41 = m := by
    have := it_bd m w h1 h2 41
    rcases it_pow m w h1 h2 41 with h | h
    · exact h
    · exfalso
      have e : ((2 ^ 41 : Nat) : Int) = 2199023255552 := by decide
      omega
  obtain ⟨d, rfl⟩ : ∃ d, n = 41 + d := ⟨n - 41, by omega⟩
  clear hn
  induction d with
  | zero => exact base
  | succ d ih =>
    rw [← Nat.add_assoc, it_succ, ih]
    unfold mn; rw [if_pos (by omega)]

theorem wr (x : Int) (h0 : -9223372036854775808 ≤ x) (h1 : x ≤ 9223372036854775807) : wrap64 x = x := by unfold wrap64; omega

/-! ### back.Wait -/
theorem wait_loop (m : Int) (hm : m ≤ 1099511627776) (d : Nat) : ∀ (w n : Int), 1 ≤ w → w ≤ m → 0 ≤ n → n ≤ 9223372036854775807 → (m - w).toNat ≤ d →
    Ev (fun k => back_Wait.l0 k m n w) (it m w n.toNat, 0) := by
  induction d with
  | zero =>
    intro w n h1 h2 h3 h4 hd
    obtain rfl : w = m := by omega
    refine Ev.step (f := fun _ => some (w, 0)) (fun k => by simp only [back_Wait.l0]; rw [if_neg (by omega)]) ?_
    rw [it_m w h1]
    exact Ev.now _
  | succ d ih =>
    intro w n h1 h2 h3 h4 hd
    by_cases hlt : w < m
    · by_cases hn : 0 < n
      · refine Ev.step (f := fun k => back_Wait.l0 k m (wrap64 (n - 1)) (mn (wrap64 (2 * w)) m)) (fun k => by simp only [back_Wait.l0]; rw [if_pos hlt, if_pos hn]) ?_
        rw [wr (n - 1) (by omega) (by omega), wr (2 * w) (by omega) (by omega)]
        have hml := mn_le (2 * w) m
        have := ih (mn (2 * w) m) (n - 1) (by omega) (by omega) (by omega) (by omega) (by omega)
        have e : n.toNat = (n - 1).toNat + 1 := by omega
        rw [e, it]
        exact this
      · obtain rfl : n = 0 := by omega
        refine Ev.step (f := fun _ => some (w, 0)) (fun k => by simp only [back_Wait.l0]; rw [if_pos hlt, if_neg (by omega)]) ?_
        exact Ev.now _
    · obtain rfl : w = m := by omega
      refine Ev.step (f := fun _ => some (w, 0)) (fun k => by simp only [back_Wait.l0]; rw [if_neg (by omega)]) ?_
      rw [it_m w h1]
      exact Ev.now _

def Ok (f m : Int) : Prop := 1 ≤ f ∧ f ≤ m ∧ m ≤ 1099511627776

theorem may_yes {f m : Int} (h : Ok f m) : back_may.f f m = some true := by
  unfold Ok at h
  unfold back_may.f; rw [if_pos (by omega), if_pos (by omega), decide_eq_true (by omega)]
theorem may_no {f m : Int} (h : ¬ Ok f m) : back_may.f f m = some false := by
  unfold Ok at h
  unfold back_may.f
  by_cases h1 : f ≥ 1
  · rw [if_pos h1]
    by_cases h2 : f ≤ m
    · rw [if_pos h2, decide_eq_false (by omega)]
    · rw [if_neg h2]
  · rw [if_neg h1]

theorem wait_yes {f m n : Int} (h : Ok f m) (h0 : 0 ≤ n) (h1 : n ≤ 9223372036854775807) : Ev (fun k => back_Wait.f k f m n) (it m f n.toNat, 0) := by
  have hl := wait_loop m h.2.2 (m - f).toNat f n h.1 h.2.1 h0 h1 (Nat.le_refl _)
  refine Ev.congr (f := fun k => back_Wait.j0 k f m n false) (fun k => ?_) ?_
  · unfold back_Wait.f; rw [may_yes h]; simp only [Option.bind_some]; rw [if_pos trivial, decide_eq_false (by omega)]
  · exact Ev.step (f := fun k => back_Wait.l0 k m n f) (fun k => by simp only [back_Wait.j0]; rw [if_neg (by decide)]) hl
theorem wait_no {f m n : Int} (h : ¬ Ok f m ∨ n < 0) : Ev (fun k => back_Wait.f k f m n) (0, 1) := by
  refine Ev.congr (f := fun k => back_Wait.j0 k f m n true) (fun k => ?_) ?_
  · unfold back_Wait.f
    by_cases ho : Ok f m
    · rw [may_yes ho]; simp only [Option.bind_some]; rw [if_pos trivial, decide_eq_true (by rcases h with h | h; exact absurd ho h; exact h)]
    · rw [may_no ho]; simp only [Option.bind_some]; rw [if_neg (by decide)]
  · exact Ev.step (f := fun _ => some (0, 1)) (fun k => by simp only [back_Wait.j0]; rw [if_pos trivial]) (Ev.now _)

/-! ### back.Sum -/
def sm (m f : Int) : Nat → Int
  | 0 => 0
  | n + 1 => sm m f n + it m f n

theorem sm_bd (m f : Int) (h1 : 1 ≤ f) (h2 : f ≤ m) : ∀ n : Nat, n * f ≤ sm m f n ∧ sm m f n ≤ n * m
  | 0 => by simp [sm]
  | n + 1 => by
    have h := sm_bd m f h1 h2 n
    have := it_bd m f h1 h2 n
    rw [sm]
    have e1 : ((n + 1 : Nat) : Int) * f = n * f + f := by rw [Int.natCast_add, Int.add_mul]; simp
    have e2 : ((n + 1 : Nat) : Int) * m = n * m + m := by rw [Int.natCast_add, Int.add_mul]; simp
    rw [e1, e2]
    omega

theorem sm_small {m f : Int} (h : Ok f m) (n : Nat) (hn : n ≤ 1000) : 0 ≤ sm m f n ∧ sm m f n ≤ 1099511627776000 := by
  have hb := sm_bd m f h.1 h.2.1 n
  have h1 : (n : Int) * m ≤ 1000 * 1099511627776 := Int.mul_le_mul (by omega) h.2.2 (by have := h.1; have := h.2.1; omega) (by omega)
  have h2 : (0 : Int) ≤ n * f := Int.mul_nonneg (by omega) (by have := h.1; omega)
  omega

theorem sum_loop {f m : Int} (h : Ok f m) (t : Nat) (ht : t ≤ 1000) (d : Nat) : ∀ i : Nat, i ≤ t → t - i ≤ d →
    Ev (fun k => back_Sum.l0 k f m (sm m f i) t i) (sm m f t, 0) := by
  induction d with
  | zero =>
    intro i hi hd
    obtain rfl : i = t := by omega
    exact Ev.step (f := fun _ => some (sm m f i, 0)) (fun k => by simp only [back_Sum.l0]; rw [if_neg (by omega)]) (Ev.now _)
  | succ d ih =>
    intro i hi hd
    by_cases hlt : i < t
    · have hb := it_bd m f h.1 h.2.1 i
      have hs := sm_small h i (by omega)
      have hm := h.2.2
      refine Ev.step (f := fun k => (back_Wait.f k f m i).bind fun bt103 => (back_Sum.l0 k f m (wrap64 (sm m f i + bt103.1)) t (wrap64 (i + 1)))) (fun k => by simp only [back_Sum.l0]; rw [if_pos (by omega)]) ?_
      refine Ev.bind (wait_yes h (n := (i : Int)) (by omega) (by omega)) ?_
      have := ih (i + 1) (by omega) (by omega)
      simp only [Int.toNat_natCast]
      rw [wr (sm m f i + it m f i) (by have := h.1; omega) (by omega), wr ((i : Int) + 1) (by omega) (by omega)]
      simpa [sm] using this
    · obtain rfl : i = t := by omega
      exact Ev.step (f := fun _ => some (sm m f i, 0)) (fun k => by simp only [back_Sum.l0]; rw [if_neg (by omega)]) (Ev.now _)

theorem sum_yes {f m n : Int} (h : Ok f m) (h0 : 0 ≤ n) (h1 : n ≤ 1000) : Ev (fun k => back_Sum.f k f m n) (sm m f n.toNat, 0) := by
  have hl := sum_loop h n.toNat (by omega) n.toNat 0 (by omega) (by omega)
  refine Ev.congr (f := fun k => back_Sum.j0 k f m n false) (fun k => ?_) ?_
  · unfold back_Sum.f; rw [may_yes h]; simp only [Option.bind_some]; rw [if_pos trivial, if_neg (by omega), decide_eq_false (by omega)]
  · refine Ev.step (f := fun k => back_Sum.l0 k f m 0 n 0) (fun k => by simp only [back_Sum.j0]; rw [if_neg (by decide)]) ?_
    rw [Int.toNat_of_nonneg h0] at hl
    exact hl
theorem sum_no {f m n : Int} (h : ¬ Ok f m ∨ n < 0 ∨ 1000 < n) : Ev (fun k => back_Sum.f k f m n) (0, 1) := by
  refine Ev.congr (f := fun k => back_Sum.j0 k f m n true) (fun k => ?_) ?_
  · unfold back_Sum.f
    by_cases ho : Ok f m
    · rw [may_yes ho]; simp only [Option.bind_some]; rw [if_pos trivial]
      by_cases hn : n < 0
      · rw [if_pos hn]
      · rw [if_neg hn, decide_eq_true (by rcases h with h | h | h; exact absurd ho h; exact absurd h hn; exact h)]
    · rw [may_no ho]; simp only [Option.bind_some]; rw [if_neg (by decide)]
  · exact Ev.step (f := fun _ => some (0, 1)) (fun k => by simp only [back_Sum.j0]; rw [if_pos trivial]) (Ev.now _)

theorem awake_yes : Ev (fun k => embrasurelaw07_awake.f k) true := by
  unfold embrasurelaw07_awake.f
  refine Ev.bind (wait_yes (f := 250) (m := 1000) (n := 1) (by unfold Ok; omega) (by omega) (by omega)) ?_
  refine Ev.bind (sum_yes (f := 250) (m := 1000) (n := 4) (by unfold Ok; omega) (by omega) (by omega)) ?_
  refine Ev.bind (wait_no (f := 5) (m := 4) (n := 0) (.inl (by unfold Ok; omega))) ?_
  have e1 : it 1000 250 (Int.toNat 1) = 500 := by decide
  have e2 : sm 1000 250 (Int.toNat 4) = 2750 := by decide
  rw [e1, e2]
  simp only [if_true, BEq.rfl]
  exact Ev.now _

theorem plan_yes {f m : Int} (h : Ok f m) : embrasureref07_Plan.f f m = some true := by
  unfold Ok at h
  unfold embrasureref07_Plan.f; rw [if_pos (by omega), if_pos (by omega), decide_eq_true (by omega)]
theorem plan_no {f m : Int} (h : ¬ Ok f m) : embrasureref07_Plan.f f m = some false := by
  unfold Ok at h
  unfold embrasureref07_Plan.f
  by_cases h1 : f > 0
  · rw [if_pos h1]
    by_cases h2 : m ≥ f
    · rw [if_pos h2, decide_eq_false (by omega)]
    · rw [if_neg h2]
  · rw [if_neg h1]

/-- The reference's loop: from i on, at w: as many steps as are left below n and below 60. -/
theorem rwait_loop {m : Int} (hm : m ≤ 1099511627776) (n : Int) (h3 : 0 ≤ n) (d : Nat) : ∀ (w i : Int), 1 ≤ w → w ≤ m → 0 ≤ i → i ≤ 60 → (60 - i).toNat ≤ d →
    Ev (fun k => embrasureref07_Wait.l0 k m n w i) (it m w (min (n - i) (60 - i)).toNat, 0) := by
  induction d with
  | zero =>
    intro w i h1 h2 h4 h5 hd
    obtain rfl : i = 60 := by omega
    have e0 : (min (n - 60) ((60 : Int) - 60)).toNat = 0 := by omega
    rw [e0]
    refine Ev.step (f := fun k => embrasureref07_Wait.j2 k m n w 60 false) (fun k => ?_) ?_
    · simp only [embrasureref07_Wait.l0]
      by_cases h : (60 : Int) < n
      · rw [if_pos h]; rfl
      · rw [if_neg h]
    · exact Ev.step (f := fun _ => some (w, 0)) (fun k => by simp only [embrasureref07_Wait.j2]; rw [if_neg (by decide)]) (Ev.now _)
  | succ d ih =>
    intro w i h1 h2 h4 h5 hd
    by_cases hlt : i < n ∧ i < 60
    · have e0 : (min (n - i) (60 - i)).toNat = (min (n - (i + 1)) (60 - (i + 1))).toNat + 1 := by omega
      rw [e0, it]
      refine Ev.step (f := fun k => embrasureref07_Wait.j2 k m n w i true) (fun k => by simp only [embrasureref07_Wait.l0]; rw [if_pos hlt.1, decide_eq_true hlt.2]) ?_
      have hml := mn_le (2 * w) m
      have := ih (mn (2 * w) m) (i + 1) (by omega) (by omega) (by omega) (by omega) (by omega)
      refine Ev.step (f := fun k => embrasureref07_Wait.l0 k m n (mn (2 * w) m) (i + 1)) (fun k => ?_) this
      simp only [embrasureref07_Wait.j2]; rw [if_pos trivial, wr (w * 2) (by omega) (by omega), wr (i + 1) (by omega) (by omega)]
      unfold mn
      by_cases hc : m < 2 * w
      · rw [if_pos (by omega), if_pos hc]
      · rw [if_neg (by omega), if_neg hc, Int.mul_comm]
    · have e0 : (min (n - i) (60 - i)).toNat = 0 := by omega
      rw [e0]
      refine Ev.step (f := fun k => embrasureref07_Wait.j2 k m n w i false) (fun k => ?_) ?_
      · simp only [embrasureref07_Wait.l0]
        by_cases h : i < n
        · rw [if_pos h, decide_eq_false (by omega)]
        · rw [if_neg h]
      · exact Ev.step (f := fun _ => some (w, 0)) (fun k => by simp only [embrasureref07_Wait.j2]; rw [if_neg (by decide)]) (Ev.now _)

theorem rwait_yes {f m n : Int} (h : Ok f m) (h0 : 0 ≤ n) : Ev (fun k => embrasureref07_Wait.f k f m n) (it m f n.toNat, 0) := by
  have hl := rwait_loop h.2.2 n h0 60 f 0 h.1 h.2.1 (by omega) (by omega) (by omega)
  have e : it m f (min (n - 0) (60 - 0)).toNat = it m f n.toNat := by
    by_cases hn : n ≤ 60
    · rw [show (min (n - 0) (60 - 0)).toNat = n.toNat by omega]
    · rw [it_top m f h.1 h.2.1 h.2.2 _ (by omega), it_top m f h.1 h.2.1 h.2.2 n.toNat (by omega)]
  rw [e] at hl
  refine Ev.congr (f := fun k => embrasureref07_Wait.j0 k f m n false) (fun k => ?_) ?_
  · unfold embrasureref07_Wait.f; rw [plan_yes h]; simp only [Option.bind_some]; rw [if_pos trivial, decide_eq_false (by omega)]
  · exact Ev.step (f := fun k => embrasureref07_Wait.l0 k m n f 0) (fun k => by simp only [embrasureref07_Wait.j0]; rw [if_neg (by decide)]) hl
theorem rwait_no {f m n : Int} (h : ¬ Ok f m ∨ n < 0) : Ev (fun k => embrasureref07_Wait.f k f m n) (0, 1) := by
  refine Ev.congr (f := fun k => embrasureref07_Wait.j0 k f m n true) (fun k => ?_) ?_
  · unfold embrasureref07_Wait.f
    by_cases ho : Ok f m
    · rw [plan_yes ho]; simp only [Option.bind_some]; rw [if_pos trivial, decide_eq_true (by rcases h with h | h; exact absurd ho h; exact h)]
    · rw [plan_no ho]; simp only [Option.bind_some]; rw [if_neg (by decide)]
  · exact Ev.step (f := fun _ => some (0, 1)) (fun k => by simp only [embrasureref07_Wait.j0]; rw [if_pos trivial]) (Ev.now _)


/-! ### the reference's times -/
def atT (f m s : Int) (i : Nat) : Int := s + sm m f (i + 1)
theorem sm_mono {m f : Int} (h : Ok f m) (n : Nat) : sm m f n + 1 ≤ sm m f (n + 1) := by
  have := it_bd m f h.1 h.2.1 n
  have := h.1
  rw [sm]; omega
theorem sm_ge {m f : Int} (h : Ok f m) : ∀ n : Nat, (n : Int) ≤ sm m f n
  | 0 => by simp [sm]
  | n + 1 => by have := sm_ge h n; have := sm_mono h n; omega

theorem rtimes_loop {f m s : Int} (h : Ok f m) (hs0 : 0 ≤ s) (_hs1 : s ≤ 1099511627776) (many : Nat) (hm : many ≤ 1000) (d : Nat) : ∀ i : Nat, i + d = many → (i = 0 ∨ s + sm m f i ≤ 1099511627776) → s + sm m f i ≤ 1099511627776 →
    ∃ c, i ≤ c ∧ c ≤ many ∧ (∀ j, i ≤ j → j < c → atT f m s j ≤ 1099511627776) ∧ (c = many ∨ 1099511627776 < atT f m s c) ∧
      Ev (fun k => embrasureref07_Times.l0 k f m many ((List.range i).map (atT f m s)) (s + sm m f i) i) ((List.range c).map (atT f m s)) := by
  induction d with
  | zero =>
    intro i hi _ _
    obtain rfl : i = many := by omega
    refine ⟨i, Nat.le_refl _, Nat.le_refl _, fun j h1 h2 => by omega, .inl rfl, ?_⟩
    exact Ev.step (f := fun _ => some ((List.range i).map (atT f m s))) (fun k => by simp only [embrasureref07_Times.l0]; rw [if_neg (by omega)]) (Ev.now _)
  | succ d ih =>
    intro i hi _ hle
    have hb := it_bd m f h.1 h.2.1 i
    have hm1 := h.2.2
    have hf1 := h.1
    have hsm : 0 ≤ sm m f i := by have := sm_ge h i; omega
    have e : s + sm m f i + it m f i = atT f m s i := by unfold atT; rw [sm]; omega
    have hw : wrap64 (s + sm m f i + it m f i) = atT f m s i := by rw [wr _ (by omega) (by omega), e]
    by_cases hc : atT f m s i ≤ 1099511627776
    · obtain ⟨c, h1, h2, h3, h4, h5⟩ := ih (i + 1) (by omega) (.inr hc) hc
      refine ⟨c, by omega, h2, fun j hj1 hj2 => ?_, h4, ?_⟩
      · by_cases ej : j = i
        · subst ej; exact hc
        · exact h3 j (by omega) hj2
      · refine Ev.step (f := fun k => (embrasureref07_Wait.f k f m i).bind fun bt113 => (if (wrap64 (s + sm m f i + bt113.1)) > 1099511627776 then (some ((List.range i).map (atT f m s))) else (if ((List.range i).map (atT f m s)).length < 17592186044416 then (embrasureref07_Times.l0 k f m many (((List.range i).map (atT f m s)) ++ [wrap64 (s + sm m f i + bt113.1)]) (wrap64 (s + sm m f i + bt113.1)) (wrap64 (i + 1))) else (none)))) (fun k => by simp only [embrasureref07_Times.l0]; rw [if_pos (by omega)]) ?_
        refine Ev.bind (rwait_yes h (n := (i : Int)) (by omega)) ?_
        simp only [Int.toNat_natCast, hw, List.length_map, List.length_range]
        rw [wr _ (by omega) (by omega)]
        have e2 : ((List.range i).map (atT f m s)) ++ [atT f m s i] = (List.range (i + 1)).map (atT f m s) := by simp [List.range_succ]
        simp only [gt_iff_lt, show ¬ (1099511627776 < atT f m s i) by omega, if_false, show i < 17592186044416 by omega, if_true, e2]
        exact h5
    · refine ⟨i, Nat.le_refl _, by omega, fun j h1 h2 => by omega, .inr (by omega), ?_⟩
      refine Ev.step (f := fun k => (embrasureref07_Wait.f k f m i).bind fun bt113 => (if (wrap64 (s + sm m f i + bt113.1)) > 1099511627776 then (some ((List.range i).map (atT f m s))) else (if ((List.range i).map (atT f m s)).length < 17592186044416 then (embrasureref07_Times.l0 k f m many (((List.range i).map (atT f m s)) ++ [wrap64 (s + sm m f i + bt113.1)]) (wrap64 (s + sm m f i + bt113.1)) (wrap64 (i + 1))) else (none)))) (fun k => by simp only [embrasureref07_Times.l0]; rw [if_pos (by omega)]) ?_
      refine Ev.bind (rwait_yes h (n := (i : Int)) (by omega)) ?_
      simp only [Int.toNat_natCast, hw, gt_iff_lt, show 1099511627776 < atT f m s i by omega, if_true]
      exact Ev.now _

/-- A plan and a beginning that the times take. -/
def Tk (f m s : Int) : Prop := Ok f m ∧ 0 ≤ s ∧ s ≤ 1099511627776

theorem rtimes_yes {f m s : Int} (h : Tk f m s) (many : Nat) (hm : many ≤ 1000) :
    ∃ c, c ≤ many ∧ (∀ j, j < c → atT f m s j ≤ 1099511627776) ∧ (c = many ∨ 1099511627776 < atT f m s c) ∧ Ev (fun k => embrasureref07_Times.f k f m s many) ((List.range c).map (atT f m s)) := by
  obtain ⟨c, _, h2, h3, h4, h5⟩ := rtimes_loop h.1 h.2.1 h.2.2 many hm many 0 (by omega) (.inl rfl) (by simp only [sm]; have := h.2.2; omega)
  refine ⟨c, h2, fun j hj => h3 j (Nat.zero_le _) hj, h4, ?_⟩
  refine Ev.congr (f := fun k => embrasureref07_Times.j0 k f m s many [] false) (fun k => ?_) ?_
  · unfold embrasureref07_Times.f; rw [plan_yes h.1]; simp only [Option.bind_some]; rw [if_pos trivial, if_neg (by have := h.2.1; omega), decide_eq_false (by have := h.2.2; omega)]
  · refine Ev.step (f := fun k => embrasureref07_Times.l0 k f m many [] s 0) (fun k => by simp only [embrasureref07_Times.j0]; rw [if_neg (by decide)]) ?_
    simpa [sm] using h5
theorem rtimes_no {f m s : Int} (h : ¬ Tk f m s) (many : Nat) : Ev (fun k => embrasureref07_Times.f k f m s many) [] := by
  refine Ev.congr (f := fun k => embrasureref07_Times.j0 k f m s many [] true) (fun k => ?_) (Ev.step (f := fun _ => some []) (fun k => by simp only [embrasureref07_Times.j0]; rw [if_pos trivial]) (Ev.now _))
  unfold embrasureref07_Times.f
  by_cases ho : Ok f m
  · rw [plan_yes ho]; simp only [Option.bind_some]; rw [if_pos trivial]
    by_cases hs : s < 0
    · rw [if_pos hs]
    · rw [if_neg hs, decide_eq_true (by have : ¬ (0 ≤ s ∧ s ≤ 1099511627776) := fun x => h ⟨ho, x.1, x.2⟩; omega)]
  · rw [plan_no ho]; simp only [Option.bind_some]; rw [if_neg (by decide)]

end Go.Proofs.Ytnhlmmiocbkpjaa.Tm
