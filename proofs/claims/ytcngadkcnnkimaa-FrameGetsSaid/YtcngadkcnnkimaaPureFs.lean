/-
  Frames, plain: frames cut off; rows compared. No Go in it.
-/
import Derived.Test.YtcngadkcnnkimaaHx5
import Derived.Test.YtcngadkcnnkimaaPureFr
import Derived.Test.YtcngadkcnnkimaaPureUv
namespace Go.Proofs.Ytcngadkcnnkimaa.Fr
open Go.RowKit Go.Proofs.Ytcngadkcnnkimaa.H Go.Proofs.Ytcngadkcnnkimaa.Uv Go.Proofs.YtcngadkcnnkimaaW.PrintWords Go.Proofs.YtcngadkcnnkimaaW.PrintLast Go.Proofs.YtcngadkcnnkimaaW.PrintMore


/-! ### cut off -/
theorem getF_cut (row : List Int) (m : Nat) (h : row.length ≤ 1200) (_h0 : 0 < m) (hm : m < (putI (row.length : Int) ++ row).length) : ∃ x n, getF ((putI (row.length : Int) ++ row).take m) = (x, n, 2) := by
  rw [List.length_append] at hm
  by_cases h1 : m < (putI (row.length : Int)).length
  · rw [List.take_append_of_le_length (by omega)]
    have hc := getI_cut (row.length : Int) m (by omega) h1
    exact ⟨[], 0, by rw [getF_bad (by rw [hc]; decide), hc]⟩
  · have e : (putI (row.length : Int) ++ row).take m = putI (row.length : Int) ++ row.take (m - (putI (row.length : Int)).length) := by
      rw [List.take_append, List.take_of_length_le (by omega)]
    have hi := getI_put (row.length : Int) (row.take (m - (putI (row.length : Int)).length)) (by omega) (by omega)
    rw [e]
    refine ⟨[], 0, getF_short (by rw [hi]) (by rw [hi]; dsimp only; omega) ?_⟩
    rw [hi]
    simp only [List.length_append, List.length_take]
    omega
theorem frame_pos (row : List Int) (h : row.length ≤ 1200) : 1 ≤ (putI (row.length : Int)).length := by
  have h2 := enc_ne 8 (row.length : Int)
  have h1 : putI (row.length : Int) = enc 8 (row.length : Int) := by unfold putI; rw [if_pos (by omega)]
  rw [h1]
  cases hq : enc 8 (row.length : Int) with
  | nil => exact absurd hq h2
  | cons x xs => simp
theorem joinF_nil {rows : List (List Int)} (h : ∀ r ∈ rows, r.length ≤ 1200) (hz : (joinF rows).length = 0) : rows.length = 0 := by
  cases rows with
  | nil => rfl
  | cons r rs =>
    have h1 := frame_pos r (h r (by simp))
    have : joinF (r :: rs) = (putI r.length ++ r) ++ joinF rs := rfl
    rw [this, List.length_append, List.length_append] at hz
    omega
theorem rowsF_cut : ∀ (rows : List (List Int)) (m : Nat), (∀ r ∈ rows, r.length ≤ 1200 ∧ Bytes r) → m < (joinF rows).length → ((rowsF ((joinF rows).take m)).2 = 2 ∨ (rowsF ((joinF rows).take m)).2 = 0) ∧ (rowsF ((joinF rows).take m)).1.length < rows.length
  | [], m, _, hm => by simp [joinF] at hm
  | r :: rs, m, h, hm => by
    have e : joinF (r :: rs) = (putI r.length ++ r) ++ joinF rs := rfl
    have hrs : ∀ x ∈ rs, x.length ≤ 1200 ∧ Bytes x := fun x hx => h x (by simp [hx])
    rw [e] at hm ⊢
    by_cases h1 : m < (putI (r.length : Int) ++ r).length
    · rw [List.take_append_of_le_length (by omega)]
      by_cases h0 : m = 0
      · rw [h0, List.take_zero, rowsF_nil]; simp
      · obtain ⟨x, n, hx⟩ := getF_cut r m (h r (by simp)).1 (by omega) h1
        rw [rowsF_bad (fun e0 => by have := congrArg List.length e0; rw [List.length_take, List.length_nil] at this; omega) (by rw [hx]; simp), hx]
        simp
    · have e2 : ((putI (r.length : Int) ++ r) ++ joinF rs).take m = joinF [r] ++ (joinF rs).take (m - (putI (r.length : Int) ++ r).length) := by
        rw [List.take_append, List.take_of_length_le (by omega)]
        simp [joinF]
      have ih := rowsF_cut rs (m - (putI (r.length : Int) ++ r).length) hrs (by rw [List.length_append] at hm; omega)
      rw [e2, rowsF_join [r] _ (fun x hx => by rw [List.mem_singleton.1 hx]; exact h r (by simp)) (fun x hx => joinF_bytes rs (fun y hy => (hrs y hy).2) x (List.mem_of_mem_take hx))]
      refine ⟨ih.1, ?_⟩
      rw [List.length_append, List.length_singleton, List.length_cons]
      omega
theorem rows_loop (a b : List (List Int)) (hl : a.length = b.length) (ha : a.length ≤ 1000000000) (hr : ∀ r ∈ a, r.length ≤ 1000000) (d : Nat) : ∀ i : Nat, a.length - i = d → i ≤ a.length → Ev (fun k => embrasureref02_Rows.l0 k a b i) (decide (a.drop i = b.drop i)) := by
  induction d with
  | zero =>
    intro i h hi
    rw [List.drop_eq_nil_of_le (by omega), List.drop_eq_nil_of_le (by omega)]
    exact Ev.step (f := fun _ => some true) (fun k => by simp only [embrasureref02_Rows.l0]; rw [if_neg (by omega)]) (by simpa using Ev.now true)
  | succ d ih =>
    intro i h hi
    have h1 : i < a.length := by omega
    have h2 : i < b.length := by omega
    refine Ev.step (f := fun k => (embrasureref01_Same.f k a[i] b[i]).bind fun t => (if t = true then (embrasureref02_Rows.l0 k a b (wrap64 ((i : Int) + 1))) else (some false))) (fun k => by
      simp only [embrasureref02_Rows.l0]; rw [if_pos (by omega), if_pos (by omega), if_pos (by omega), rd_row a i h1, rd_row b i h2]) ?_
    refine Ev.bind (same_yes a[i] b[i] (by have := hr a[i] (List.getElem_mem h1); omega)) ?_
    rw [List.drop_eq_getElem_cons h1, List.drop_eq_getElem_cons h2]
    by_cases he : a[i] = b[i]
    · rw [decide_eq_true he]
      refine Ev_if rfl ?_
      rw [wr _ (by omega) (by omega), he]
      simp only [List.cons.injEq, true_and]
      exact ih (i + 1) (by omega) (by omega)
    · rw [decide_eq_false he, decide_eq_false (fun e => he (List.cons.inj e).1)]
      exact Ev_else (by simp) (Ev.now _)
theorem rows_yes (a b : List (List Int)) (ha : a.length ≤ 1000000000) (hr : ∀ r ∈ a, r.length ≤ 1000000) : Ev (fun k => embrasureref02_Rows.f k a b) (decide (a = b)) := by
  unfold embrasureref02_Rows.f
  by_cases h : a.length = b.length
  · refine Ev_if (by omega) ?_
    have := rows_loop a b h ha hr a.length 0 (by omega) (by omega)
    rw [List.drop_zero, List.drop_zero] at this
    exact this
  · rw [decide_eq_false (fun e => h (by rw [e]))]
    exact Ev_else (by omega) (Ev.now _)

end Go.Proofs.Ytcngadkcnnkimaa.Fr
