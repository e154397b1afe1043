/-
  A number has as many bytes as its bits by seven, each but the last one 128 at least, and a lesser number has no more: the printed pure statement of UvarLens. No condition.
-/
import Derived.Test.YtehdjpjjldgklaaPureUv
import Derived.Test.YtehdjpjjldgklaaHx4
import Derived.OpenShut
namespace Go.Proofs.Ytehdjpjjldgklaa.Pure
open Go.RowKit Go.Proofs.Ytehdjpjjldgklaa.H Go.Proofs.Ytehdjpjjldgklaa.Uv Go.Proofs.YtehdjpjjldgklaaW.PrintWords Go.Proofs.YtehdjpjjldgklaaW.PrintLast Go.Proofs.YtehdjpjjldgklaaW.PrintMore

theorem awake_yes : Ev (fun k => embrasurelaw01_awake.f k) true := by
  unfold embrasurelaw01_awake.f
  refine Ev.bind (put_yes 300 (by omega) (by omega)) (Ev.bind (get_yes [128] (by decide)) (Ev.bind (get_yes [128, 0] (by decide)) ?_))
  rw [show putI 300 = [172, 2] by decide, show getI [128] = (0, 0, 2) by decide, show getI [128, 0] = (0, 0, 3) by decide]
  refine Ev_if (by decide) (Ev_if (by decide) (Ev_if (by decide) (Ev_if (by decide) (Ev_if (by decide) (Ev_if (by decide) (Ev_if (by decide) (Ev.bind (len_yes 300 (by omega) (by omega)) ?_)))))))
  rw [show lenI 300 = 2 by decide]
  exact Ev.now _

theorem enc_at (n : Nat) : ∀ (v : Int), 0 ≤ v → v < pw (n + 1) → (n = 0 ∨ pw n ≤ v) → ∀ i (h : i < (enc n v).length), (i < n → 128 ≤ (enc n v)[i]) ∧ (i = n → (enc n v)[i] ≤ 127) := by
  induction n with
  | zero =>
    intro v h0 h1 _ i h
    have : pw (0 + 1) = 128 := rfl
    obtain rfl : i = 0 := by simp [enc] at h; omega
    exact ⟨fun h => by omega, fun _ => by simp [enc]; omega⟩
  | succ n ih =>
    intro v h0 h1 h2 i h
    have e : pw (n + 1) = 128 * pw n := rfl
    have e2 : pw (n + 1 + 1) = 128 * pw (n + 1) := rfl
    have hp := pw_pos n
    have hv : ¬ v < 128 := by omega
    have he : enc (n + 1) v = (128 + v % 128) :: enc n (v / 128) := by rw [enc, if_neg hv]
    simp only [he] at h ⊢
    cases i with
    | zero => exact ⟨fun _ => by simp; omega, fun h => by omega⟩
    | succ i =>
      have := ih (v / 128) (by omega) (by omega) (by omega) i (by simpa using h)
      exact ⟨fun hi => by rw [List.getElem_cons_succ]; exact this.1 (by omega), fun hi => by rw [List.getElem_cons_succ]; exact this.2 (by omega)⟩

theorem lenI_mono (a b : Int) (h0 : 0 ≤ b) (h : b ≤ a) (h1 : a ≤ 9223372036854775807) : lenI b ≤ lenI a := by
  obtain ⟨n, e1, n8, l1, g1⟩ := lenI_bd a (by omega) h1
  obtain ⟨m, e2, m8, l2, g2⟩ := lenI_bd b h0 (by omega)
  by_cases hc : m ≤ n
  · omega
  · have := pw_mono (i := n + 1) (j := m) (by omega)
    omega

theorem lens_tail (a b : Int) (n : Nat) (_ha : 0 ≤ a) (ha1 : a ≤ 9223372036854775807) (hb : 0 ≤ b) (hb1 : b ≤ 9223372036854775807) (hn : n ≤ 8) (hlen : lenI a = ((n + 1 : Nat) : Int)) (x : List Int) (hx : x.length = n + 1) (hbig : ∀ i (h : i < x.length), i < n → 128 ≤ x[i]) (d : Nat) : ∀ i : Nat, i + d = n →
    Ev (fun k => embrasurelaw01_UvarLens.l1 k a b x ((n + 1 : Nat) : Int) i) true := by
  induction d with
  | zero =>
    intro i hi
    by_cases hc : b > a
    · refine Ev.step (f := fun _ => some true) (fun k => ?_) (Ev.now _)
      simp only [embrasurelaw01_UvarLens.l1]
      rw [wr _ (by omega) (by omega), if_neg (by omega), if_pos hc]
    · refine Ev.step (f := fun k => (uvar_Len.f k b).bind fun t140 => (some (decide (t140 ≤ ((n + 1 : Nat) : Int))))) (fun k => ?_) ?_
      · simp only [embrasurelaw01_UvarLens.l1]
        rw [wr _ (by omega) (by omega), if_neg (by omega), if_neg hc]
      · refine Ev.bind (len_yes b hb hb1) ?_
        have := lenI_mono a b hb (by omega) ha1
        rw [decide_eq_true (by omega)]
        exact Ev.now _
  | succ d ih =>
    intro i hi
    have hi' : i < x.length := by omega
    refine Ev.step (f := fun k => embrasurelaw01_UvarLens.l1 k a b x ((n + 1 : Nat) : Int) ((i + 1 : Nat) : Int)) (fun k => ?_) (ih (i + 1) (by omega))
    simp only [embrasurelaw01_UvarLens.l1]
    have := hbig i hi' (by omega)
    rw [wr _ (by omega) (by omega), if_pos (by omega), if_pos (by omega), if_pos (by omega), rd_get x i hi', if_neg (by omega)]
    rfl

theorem lens_count (a b : Int) (n : Nat) (ha : 0 ≤ a) (ha1 : a ≤ 9223372036854775807) (hb : 0 ≤ b) (hb1 : b ≤ 9223372036854775807) (hn : n ≤ 8) (hlen : lenI a = ((n + 1 : Nat) : Int)) (hlt : a < pw (n + 1)) (hge : n = 0 ∨ pw n ≤ a) (d : Nat) : ∀ i : Nat, i + d = n →
    Ev (fun k => embrasurelaw01_UvarLens.l0 k a b (putI a) ((i + 1 : Nat) : Int) (a / pw i)) true := by
  have hpe : putI a = enc n a := putI_enc a n ha hn hlt
  have hat := enc_at n a ha hlt hge
  have hL : (putI a).length = n + 1 := by rw [hpe]; exact enc_length n a ha hlt hge
  induction d with
  | zero =>
    intro i hi
    obtain rfl : i = n := by omega
    have e : pw (i + 1) = 128 * pw i := rfl
    have hp := pw_pos i
    have hq : a / pw i < 128 := by
      rw [e] at hlt
      exact Int.ediv_lt_of_lt_mul (by omega) hlt
    have hlast : (putI a)[i]'(by omega) ≤ 127 := by
      simp only [hpe]
      exact (hat i (by rw [← hpe, hL]; omega)).2 rfl
    refine Ev.step (f := fun k => embrasurelaw01_UvarLens.j2 k a b (putI a) ((i + 1 : Nat) : Int) false) (fun k => ?_) (Ev.step (f := fun k => embrasurelaw01_UvarLens.l1 k a b (putI a) ((i + 1 : Nat) : Int) 0) (fun k => by simp only [embrasurelaw01_UvarLens.j2]; rw [if_neg (by decide)]) ?_)
    · simp only [embrasurelaw01_UvarLens.l0]
      rw [if_neg (by omega), if_pos (by omega), wr _ (by omega) (by omega), if_pos (by omega), if_pos (by omega), show ((i + 1 : Nat) : Int) - 1 = (i : Int) by omega, rd_get (putI a) i (by omega), decide_eq_false (by omega)]
    · exact lens_tail a b i ha ha1 hb hb1 hn hlen (putI a) hL (fun j hj hji => by simp only [hpe]; exact (hat j (by rw [← hpe]; exact hj)).1 hji) i 0 (by omega)
  | succ d ih =>
    intro i hi
    have e : pw (i + 1) = 128 * pw i := rfl
    have hp := pw_pos i
    have hq : 128 ≤ a / pw i := by
      have := pw_mono (i := i + 1) (j := n) (by omega)
      rw [Int.le_ediv_iff_mul_le (by omega)]
      omega
    have hq2 : a / pw i ≤ a := Int.ediv_le_self _ ha
    have hdd : a / pw i / 128 = a / pw (i + 1) := by rw [Int.ediv_ediv_of_nonneg (by omega), e, Int.mul_comm]
    refine Ev.step (f := fun k => embrasurelaw01_UvarLens.l0 k a b (putI a) ((i + 1 + 1 : Nat) : Int) (a / pw (i + 1))) (fun k => ?_) (ih (i + 1) (by omega))
    simp only [embrasurelaw01_UvarLens.l0]
    rw [if_pos (by omega), wr _ (by omega) (by omega), Int.tdiv_eq_ediv_of_nonneg (by omega), hdd, IntKind.wrap_u64, ← hdd, show a / pw i / 128 % 18446744073709551616 = a / pw i / 128 by omega]
    rfl

theorem UvarLens : embrasurelaw01_UvarLens.Pure := by
  intro a b ha hb
  have hab := bounds_u64 ha
  have hbb := bounds_u64 hb
  refine Ev.rounds ?_
  unfold embrasurelaw01_UvarLens.f
  refine Ev.bind awake_yes (Ev_if rfl ?_)
  have big : (a > 9223372036854775807 ∨ b > 9223372036854775807) → Ev (fun k => embrasurelaw01_UvarLens.j0 k a b true) true := by
    intro h
    have hm : 9223372036854775808 ≤ mx a b ∧ mx a b ≤ 18446744073709551615 := by unfold mx; split <;> omega
    refine Ev.step (f := fun k => (uvar_Len.f k (mx a b)).bind fun t134 => (some (t134 == 0))) (fun k => by simp only [embrasurelaw01_UvarLens.j0]; rw [if_pos trivial]) ?_
    refine Ev.bind (len_no _ hm.1 hm.2) ?_
    exact Ev.now _
  by_cases h1 : a > 9223372036854775807
  · exact Ev_if h1 (big (.inl h1))
  refine Ev_else h1 ?_
  by_cases h2 : b > 9223372036854775807
  · rw [decide_eq_true h2]; exact big (.inr h2)
  rw [decide_eq_false h2]
  obtain ⟨n, hlen, hn, hlt, hge⟩ := lenI_bd a hab.1 (by omega)
  have hc := lens_count a b n hab.1 (by omega) hbb.1 (by omega) hn hlen hlt hge n 0 (by omega)
  have e0 : a / pw 0 = a := by rw [show pw 0 = 1 from rfl, Int.ediv_one]
  rw [e0] at hc
  refine Ev.step (f := fun k => (uvar_Put.f k a).bind fun t135 => (embrasurelaw01_UvarLens.l0 k a b t135 1 a)) (fun k => by simp only [embrasurelaw01_UvarLens.j0]; rw [if_neg (by decide)]) ?_
  exact Ev.bind (put_yes a hab.1 hab.2) hc

end Go.Proofs.Ytehdjpjjldgklaa.Pure
