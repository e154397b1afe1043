/-
  Frames, plain: what the printed Put and Get of package frame, and of its reference, come to: for all bytes. No Go in it.
-/
import Derived.Test.YteajlffchdbkjaaHx1
import Derived.Test.YteajlffchdbkjaaPureUv
namespace Go.Proofs.Yteajlffchdbkjaa.Fr
open Go.RowKit Go.Proofs.Yteajlffchdbkjaa.H Go.Proofs.Yteajlffchdbkjaa.Uv Go.Proofs.YteajlffchdbkjaaW.PrintWords Go.Proofs.YteajlffchdbkjaaW.PrintLast Go.Proofs.YteajlffchdbkjaaW.PrintMore

theorem fput_yes (row : List Int) (h : row.length ≤ 1200) : Ev (fun k => frame_Put.f k row) (putI row.length ++ row, 0) := by
  unfold frame_Put.f
  refine Ev_else (by omega) ?_
  have hw : IntKind.u64.wrap (row.length : Int) = (row.length : Int) := by rw [IntKind.wrap_u64]; omega
  rw [hw]
  have h9 := putI_len_le (row.length : Int)
  exact Ev.bind (put_yes _ (by omega) (by omega)) (Ev_if (by omega) (Ev.now _))
def Bytes (l : List Int) : Prop := ∀ x ∈ l, 0 ≤ x ∧ x ≤ 255
theorem Bytes.drop {l : List Int} (h : Bytes l) (n : Nat) : Bytes (l.drop n) := fun x hx => h x (List.mem_of_mem_drop hx)
theorem Bytes.app {a b : List Int} (ha : Bytes a) (hb : Bytes b) : Bytes (a ++ b) := fun x hx => (List.mem_append.1 hx).elim (ha x) (hb x)
def getF (b : List Int) : List Int × Int × Int :=
  if (getI b).2.2 ≠ 0 then ([], 0, (getI b).2.2) else if 1200 < (getI b).1 then ([], 0, 4) else if (b.length : Int) - (getI b).2.1 < (getI b).1 then ([], 0, 2)
  else ((b.drop (getI b).2.1.toNat).take (getI b).1.toNat, (getI b).2.1 + (getI b).1, 0)
theorem getI_in {b : List Int} (hb : Bytes b) (h : (getI b).2.2 = 0) : 1 ≤ (getI b).2.1 ∧ (getI b).2.1 ≤ b.length ∧ (getI b).2.1 ≤ 9 ∧ 0 ≤ (getI b).1 ∧ (getI b).1 ≤ 9223372036854775807 := by
  rcases hd : getI b with ⟨v, k, c⟩
  rw [hd] at h
  simp only at h
  subst h
  obtain ⟨h0, h1, r, h2, h3⟩ := getI_ok b v k hb hd
  have h9 := putI_len_le v
  have hp : 1 ≤ (putI v).length := by
    have := enc_ne 8 v
    unfold putI
    rw [if_pos h1]
    cases hq : enc 8 v with
    | nil => exact absurd hq this
    | cons x xs => simp
  have hl : b.length = (putI v).length + r.length := by rw [h2, List.length_append]
  dsimp only
  omega
theorem getF_bad {b : List Int} (h : ¬ (getI b).2.2 = 0) : getF b = ([], 0, (getI b).2.2) := by unfold getF; rw [if_pos h]
theorem getF_long {b : List Int} (h : (getI b).2.2 = 0) (hv : 1200 < (getI b).1) : getF b = ([], 0, 4) := by unfold getF; rw [if_neg (fun e => e h), if_pos hv]
theorem getF_short {b : List Int} (h : (getI b).2.2 = 0) (hv : ¬ 1200 < (getI b).1) (hs : (b.length : Int) - (getI b).2.1 < (getI b).1) : getF b = ([], 0, 2) := by unfold getF; rw [if_neg (fun e => e h), if_neg hv, if_pos hs]
theorem getF_good {b : List Int} (h : (getI b).2.2 = 0) (hv : ¬ 1200 < (getI b).1) (hs : ¬ (b.length : Int) - (getI b).2.1 < (getI b).1) : getF b = ((b.drop (getI b).2.1.toNat).take (getI b).1.toNat, (getI b).2.1 + (getI b).1, 0) := by unfold getF; rw [if_neg (fun e => e h), if_neg hv, if_neg hs]
theorem fget_yes (b : List Int) (hb : Bytes b) (hl : b.length ≤ 1000000000) : Ev (fun k => frame_Get.f k b) (getF b) := by
  unfold frame_Get.f
  refine Ev.bind (get_yes b hb) ?_
  by_cases h : (getI b).2.2 = 0
  · obtain ⟨h1, h2, h3, h4, h5⟩ := getI_in hb h
    refine Ev_if h ?_
    by_cases hv : 1200 < (getI b).1
    · rw [getF_long h hv]; exact Ev_if hv (Ev.now _)
    · skip
      refine Ev_else hv ?_
      rw [wr _ (by omega) (by omega), wr _ (by omega) (by omega)]
      by_cases hs : (b.length : Int) - (getI b).2.1 < (getI b).1
      · rw [getF_short h hv hs]; exact Ev_if hs (Ev.now _)
      · rw [getF_good h hv hs]
        refine Ev_else hs ?_
        rw [wr _ (by omega) (by omega)]
        refine Ev_if (by omega) (Ev_if (by omega) (Ev_if (by omega) ?_))
        unfold bytes_Clone.f
        have hcut : (b.take ((getI b).2.1 + (getI b).1).toNat).drop (getI b).2.1.toNat = (b.drop (getI b).2.1.toNat).take (getI b).1.toNat := by
          rw [show ((getI b).2.1 + (getI b).1).toNat = (getI b).2.1.toNat + (getI b).1.toNat by omega, List.drop_take]
          congr 1; omega
        rw [hcut, if_pos (by rw [List.length_take]; omega)]
        exact Ev.now _
  · refine Ev_else h ?_
    rw [getF_bad h]; exact Ev.now _
theorem fput_no (row : List Int) (h : 1200 < row.length) : Ev (fun k => frame_Put.f k row) ([], 4) := by
  unfold frame_Put.f
  exact Ev_if (by omega) (Ev.now _)
theorem getF_in {b : List Int} (hb : Bytes b) (h : (getF b).2.2 = 0) : 1 ≤ (getF b).2.1 ∧ (getF b).2.1 ≤ b.length ∧ (getF b).1.length ≤ 1200 ∧ Bytes (getF b).1 := by
  by_cases h0 : (getI b).2.2 = 0
  · obtain ⟨h1, h2, h3, h4, h5⟩ := getI_in hb h0
    by_cases hv : 1200 < (getI b).1
    · rw [getF_long h0 hv] at h; cases h
    · by_cases hs : (b.length : Int) - (getI b).2.1 < (getI b).1
      · rw [getF_short h0 hv hs] at h; cases h
      · rw [getF_good h0 hv hs]
        refine ⟨by dsimp only; omega, by dsimp only; omega, by simp only [List.length_take]; omega, fun x hx => hb x (List.mem_of_mem_drop (List.mem_of_mem_take hx))⟩
  · rw [getF_bad h0] at h; exact absurd h h0
theorem getF_put (row more : List Int) (h : row.length ≤ 1200) : getF (putI row.length ++ (row ++ more)) = (row, ((putI row.length).length : Int) + row.length, 0) := by
  have hi := getI_put (row.length : Int) (row ++ more) (by omega) (by omega)
  have hg : getF (putI row.length ++ (row ++ more)) = (((putI row.length ++ (row ++ more)).drop (getI (putI row.length ++ (row ++ more))).2.1.toNat).take (getI (putI row.length ++ (row ++ more))).1.toNat, (getI (putI row.length ++ (row ++ more))).2.1 + (getI (putI row.length ++ (row ++ more))).1, 0) :=
    getF_good (by rw [hi]) (by rw [hi]; dsimp only; omega) (by rw [hi]; simp only [List.length_append]; omega)
  rw [hg, hi]
  dsimp only
  rw [Int.toNat_natCast, Int.toNat_natCast, List.drop_left, List.take_left]

/-! ### all frames -/
theorem getF_cut (row : List Int) (m : Nat) (h : row.length ≤ 1200) (_h0 : 0 < m) (hm : m < (putI (row.length : Int) ++ row).length) : ∃ x n, getF ((putI (row.length : Int) ++ row).take m) = (x, n, 2) := by
  rw [List.length_append] at hm
  by_cases h1 : m < (putI (row.length : Int)).length
  · rw [List.take_append_of_le_length (by omega)]
    have hc := getI_cut (row.length : Int) m (by omega) h1
    exact ⟨[], 0, by rw [getF_bad (by rw [hc]; decide), hc]⟩
  · have e : (putI (row.length : Int) ++ row).take m = putI (row.length : Int) ++ row.take (m - (putI (row.length : Int)).length) := by
      rw [List.take_append, List.take_of_length_le (by omega)]
    have hi := getI_put (row.length : Int) (row.take (m - (putI (row.length : Int)).length)) (by omega) (by omega)
    rw [e]
    refine ⟨[], 0, getF_short (by rw [hi]) (by rw [hi]; dsimp only; omega) ?_⟩
    rw [hi]
    simp only [List.length_append, List.length_take]
    omega
theorem frame_pos (row : List Int) (h : row.length ≤ 1200) : 1 ≤ (putI (row.length : Int)).length := by
  have h2 := enc_ne 8 (row.length : Int)
  have h1 : putI (row.length : Int) = enc 8 (row.length : Int) := by unfold putI; rw [if_pos (by omega)]
  rw [h1]
  cases hq : enc 8 (row.length : Int) with
  | nil => exact absurd hq h2
  | cons x xs => simp

end Go.Proofs.Yteajlffchdbkjaa.Fr
