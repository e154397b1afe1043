/-
  Frames, plain: what the printed functions of package frame, and of its reference, come to: for all bytes. No Go in it.
-/
import Derived.Test.YtcngadkcnnkimaaHx5
import Derived.Test.YtcngadkcnnkimaaHx3
import Derived.Test.YtcngadkcnnkimaaPureUv
namespace Go.Proofs.Ytcngadkcnnkimaa.Fr
open Go.RowKit Go.Proofs.Ytcngadkcnnkimaa.H Go.Proofs.Ytcngadkcnnkimaa.Uv Go.Proofs.YtcngadkcnnkimaaW.PrintWords Go.Proofs.YtcngadkcnnkimaaW.PrintLast Go.Proofs.YtcngadkcnnkimaaW.PrintMore

theorem fput_yes (row : List Int) (h : row.length ≤ 1200) : Ev (fun k => frame_Put.f k row) (putI row.length ++ row, 0) := by
  unfold frame_Put.f
  refine Ev_else (by omega) ?_
  have hw : IntKind.u64.wrap (row.length : Int) = (row.length : Int) := by rw [IntKind.wrap_u64]; omega
  rw [hw]
  have h9 := putI_len_le (row.length : Int)
  exact Ev.bind (put_yes _ (by omega) (by omega)) (Ev_if (by omega) (Ev.now _))
theorem fget_put (row more : List Int) (h : row.length ≤ 1200) (hm : more.length ≤ 5000) (hr : ∀ x ∈ row, 0 ≤ x ∧ x ≤ 255) (hmb : ∀ x ∈ more, 0 ≤ x ∧ x ≤ 255) :
    Ev (fun k => frame_Get.f k (putI row.length ++ (row ++ more))) (row, ((putI row.length).length : Int) + row.length, 0) := by
  have h9 := putI_len_le (row.length : Int)
  have hb : ∀ x ∈ putI row.length ++ (row ++ more), 0 ≤ x ∧ x ≤ 255 := by
    intro x hx
    rcases List.mem_append.1 hx with hx | hx
    · exact putI_bytes _ (by omega) x hx
    · rcases List.mem_append.1 hx with hx | hx
      · exact hr x hx
      · exact hmb x hx
  have hlen : (putI row.length ++ (row ++ more)).length = (putI row.length).length + row.length + more.length := by simp; omega
  have hcut : ((putI row.length ++ (row ++ more)).take (((putI row.length).length : Int) + (row.length : Int)).toNat).drop ((putI row.length).length : Int).toNat = row := by
    rw [show (((putI row.length).length : Int) + (row.length : Int)).toNat = (putI row.length).length + row.length by omega, Int.toNat_natCast, List.take_length_add_append, List.drop_left, List.take_left]
  unfold frame_Get.f
  refine Ev.bind (get_yes _ hb) ?_
  rw [getI_put _ _ (by omega) (by omega)]
  dsimp only
  rw [wr _ (by omega) (by omega), wr _ (by omega) (by omega), wr _ (by omega) (by omega), hcut]
  refine Ev_if rfl (Ev_else (by omega) (Ev_else (by omega) (Ev_if (by omega) (Ev_if (by omega) (Ev_if (by omega) ?_)))))
  unfold bytes_Clone.f
  rw [if_pos (by omega)]
  exact Ev.now _
theorem fget_nil : Ev (fun k => frame_Get.f k []) ([], 0, 2) := by
  unfold frame_Get.f
  refine Ev.bind (get_yes [] (by simp)) ?_
  rw [show getI [] = (0, 0, 2) by decide]
  exact Ev_else (by decide) (Ev.now _)
theorem count_one : Ev (fun k => frame_Count.f k [2, 97, 98]) 1 := by
  have hg : Ev (fun k => frame_Get.f k [2, 97, 98]) ([97, 98], 3, 0) := fget_put [97, 98] [] (by decide) (by decide) (by decide) (by simp)
  unfold frame_Count.f
  refine Ev.step (f := fun k => (frame_Get.f k [2, 97, 98]).bind fun t => (if t.2.2 = 0 then (if 0 ≤ t.2.1 then (if t.2.1 ≤ (([2, 97, 98] : List Int).length : Int) then (if (0 : Int) < 100000000000000 then (frame_Count.l0 k (([2, 97, 98] : List Int).drop t.2.1.toNat) (0 + 1)) else (none)) else (none)) else (none)) else (some 0))) (fun k => by simp only [frame_Count.l0]; rw [if_pos (by decide)]) ?_
  refine Ev.bind hg (Ev_if rfl (Ev_if (by decide) (Ev_if (by decide) (Ev_if (by decide) ?_))))
  refine Ev.step (f := fun _ => some 1) (fun k => by simp only [frame_Count.l0]; rw [if_neg (by decide)]; rfl) (Ev.now _)
theorem awake_yes : Ev (fun k => embrasurelaw02_awake.f k) true := by
  obtain ⟨k1, h1⟩ := fput_yes [97, 98] (by decide)
  obtain ⟨k2, h2⟩ := fget_put [97, 98] [] (by decide) (by decide) (by decide) (by simp)
  obtain ⟨k3, h3⟩ := fget_nil
  obtain ⟨k4, h4⟩ := count_one
  refine ⟨k1 + k2 + k3 + k4, fun k hk => ?_⟩
  unfold embrasurelaw02_awake.f
  exact if_pos ⟨h1 k (by omega), h2 k (by omega), h3 k (by omega), h4 k (by omega)⟩

/-! ### one frame -/
def Bytes (l : List Int) : Prop := ∀ x ∈ l, 0 ≤ x ∧ x ≤ 255
theorem Bytes.drop {l : List Int} (h : Bytes l) (n : Nat) : Bytes (l.drop n) := fun x hx => h x (List.mem_of_mem_drop hx)
theorem Bytes.app {a b : List Int} (ha : Bytes a) (hb : Bytes b) : Bytes (a ++ b) := fun x hx => (List.mem_append.1 hx).elim (ha x) (hb x)
def getF (b : List Int) : List Int × Int × Int :=
  if (getI b).2.2 ≠ 0 then ([], 0, (getI b).2.2) else if 1200 < (getI b).1 then ([], 0, 4) else if (b.length : Int) - (getI b).2.1 < (getI b).1 then ([], 0, 2)
  else ((b.drop (getI b).2.1.toNat).take (getI b).1.toNat, (getI b).2.1 + (getI b).1, 0)
theorem getI_in {b : List Int} (hb : Bytes b) (h : (getI b).2.2 = 0) : 1 ≤ (getI b).2.1 ∧ (getI b).2.1 ≤ b.length ∧ (getI b).2.1 ≤ 9 ∧ 0 ≤ (getI b).1 ∧ (getI b).1 ≤ 9223372036854775807 := by
  rcases hd : getI b with ⟨v, k, c⟩
  rw [hd] at h
  simp only at h
  subst h
  obtain ⟨h0, h1, r, h2, h3⟩ := getI_ok b v k hb hd
  have h9 := putI_len_le v
  have hp : 1 ≤ (putI v).length := by
    have := enc_ne 8 v
    unfold putI
    rw [if_pos h1]
    cases hq : enc 8 v with
    | nil => exact absurd hq this
    | cons x xs => simp
  have hl : b.length = (putI v).length + r.length := by rw [h2, List.length_append]
  dsimp only
  omega
theorem getF_bad {b : List Int} (h : ¬ (getI b).2.2 = 0) : getF b = ([], 0, (getI b).2.2) := by unfold getF; rw [if_pos h]
theorem getF_long {b : List Int} (h : (getI b).2.2 = 0) (hv : 1200 < (getI b).1) : getF b = ([], 0, 4) := by unfold getF; rw [if_neg (fun e => e h), if_pos hv]
theorem getF_short {b : List Int} (h : (getI b).2.2 = 0) (hv : ¬ 1200 < (getI b).1) (hs : (b.length : Int) - (getI b).2.1 < (getI b).1) : getF b = ([], 0, 2) := by unfold getF; rw [if_neg (fun e => e h), if_neg hv, if_pos hs]
theorem getF_good {b : List Int} (h : (getI b).2.2 = 0) (hv : ¬ 1200 < (getI b).1) (hs : ¬ (b.length : Int) - (getI b).2.1 < (getI b).1) : getF b = ((b.drop (getI b).2.1.toNat).take (getI b).1.toNat, (getI b).2.1 + (getI b).1, 0) := by unfold getF; rw [if_neg (fun e => e h), if_neg hv, if_neg hs]
theorem fget_yes (b : List Int) (hb : Bytes b) (hl : b.length ≤ 1000000000) : Ev (fun k => frame_Get.f k b) (getF b) := by
  unfold frame_Get.f
  refine Ev.bind (get_yes b hb) ?_
  by_cases h : (getI b).2.2 = 0
  · obtain ⟨h1, h2, h3, h4, h5⟩ := getI_in hb h
    refine Ev_if h ?_
    by_cases hv : 1200 < (getI b).1
    · rw [getF_long h hv]; exact Ev_if hv (Ev.now _)
    · skip
      refine Ev_else hv ?_
      rw [wr _ (by omega) (by omega), wr _ (by omega) (by omega)]
      by_cases hs : (b.length : Int) - (getI b).2.1 < (getI b).1
      · rw [getF_short h hv hs]; exact Ev_if hs (Ev.now _)
      · rw [getF_good h hv hs]
        refine Ev_else hs ?_
        rw [wr _ (by omega) (by omega)]
        refine Ev_if (by omega) (Ev_if (by omega) (Ev_if (by omega) ?_))
        unfold bytes_Clone.f
        have hcut : (b.take ((getI b).2.1 + (getI b).1).toNat).drop (getI b).2.1.toNat = (b.drop (getI b).2.1.toNat).take (getI b).1.toNat := by
          rw [show ((getI b).2.1 + (getI b).1).toNat = (getI b).2.1.toNat + (getI b).1.toNat by omega, List.drop_take]
          congr 1; omega
        rw [hcut, if_pos (by rw [List.length_take]; omega)]
        exact Ev.now _
  · refine Ev_else h ?_
    rw [getF_bad h]; exact Ev.now _
theorem rfget_yes (b : List Int) (hb : Bytes b) (hl : b.length ≤ 1000000000) : Ev (fun k => embrasureref02_Get.f k b) (getF b) := by
  unfold embrasureref02_Get.f
  refine Ev.bind (rget_yes b hb) ?_
  by_cases h : (getI b).2.2 = 0
  · obtain ⟨h1, h2, h3, h4, h5⟩ := getI_in hb h
    refine Ev_if h ?_
    by_cases hv : 1200 < (getI b).1
    · rw [getF_long h hv]; exact Ev_if hv (Ev.now _)
    · skip
      refine Ev_else hv ?_
      have hw : IntKind.u64.wrap ((b.length : Int) - (getI b).2.1) = (b.length : Int) - (getI b).2.1 := by rw [IntKind.wrap_u64]; omega
      rw [wr _ (by omega) (by omega), hw]
      by_cases hs : (b.length : Int) - (getI b).2.1 < (getI b).1
      · rw [getF_short h hv hs]; exact Ev_if hs (Ev.now _)
      · rw [getF_good h hv hs]
        refine Ev_else hs ?_
        simp only [Option.bind_some]
        rw [wr (getI b).1 (by omega) (by omega), wr ((getI b).2.1 + (getI b).1) (by omega) (by omega)]
        have hcut : (b.take ((getI b).2.1 + (getI b).1).toNat).drop (getI b).2.1.toNat = (b.drop (getI b).2.1.toNat).take (getI b).1.toNat := by
          rw [show ((getI b).2.1 + (getI b).1).toNat = (getI b).2.1.toNat + (getI b).1.toNat by omega, List.drop_take]
          congr 1; omega
        rw [hcut, List.nil_append]
        refine Ev_if (by omega) (Ev_if (by omega) (Ev_if (by omega) (Ev_if (by simp; omega) ?_)))
        exact Ev.now _
  · refine Ev_else h ?_
    rw [getF_bad h]; exact Ev.now _
theorem rfput_yes (row : List Int) (h : row.length ≤ 1200) : Ev (fun k => embrasureref02_Put.f k row) (putI row.length ++ row, 0) := by
  unfold embrasureref02_Put.f
  refine Ev_else (by omega) ?_
  have hw : IntKind.u64.wrap (row.length : Int) = (row.length : Int) := by rw [IntKind.wrap_u64]; omega
  rw [hw]
  have h9 := putI_len_le (row.length : Int)
  exact Ev.bind (rput_yes _ (by omega)) (Ev_if (by omega) (Ev.now _))
theorem fput_no (row : List Int) (h : 1200 < row.length) : Ev (fun k => frame_Put.f k row) ([], 4) := by
  unfold frame_Put.f
  exact Ev_if (by omega) (Ev.now _)
theorem rfput_no (row : List Int) (h : 1200 < row.length) : Ev (fun k => embrasureref02_Put.f k row) ([], 4) := by
  unfold embrasureref02_Put.f
  exact Ev_if (by omega) (Ev.now _)

theorem getF_in {b : List Int} (hb : Bytes b) (h : (getF b).2.2 = 0) : 1 ≤ (getF b).2.1 ∧ (getF b).2.1 ≤ b.length ∧ (getF b).1.length ≤ 1200 ∧ Bytes (getF b).1 := by
  by_cases h0 : (getI b).2.2 = 0
  · obtain ⟨h1, h2, h3, h4, h5⟩ := getI_in hb h0
    by_cases hv : 1200 < (getI b).1
    · rw [getF_long h0 hv] at h; cases h
    · by_cases hs : (b.length : Int) - (getI b).2.1 < (getI b).1
      · rw [getF_short h0 hv hs] at h; cases h
      · rw [getF_good h0 hv hs]
        refine ⟨by dsimp only; omega, by dsimp only; omega, by simp only [List.length_take]; omega, fun x hx => hb x (List.mem_of_mem_drop (List.mem_of_mem_take hx))⟩
  · rw [getF_bad h0] at h; exact absurd h h0
theorem getF_put (row more : List Int) (h : row.length ≤ 1200) : getF (putI row.length ++ (row ++ more)) = (row, ((putI row.length).length : Int) + row.length, 0) := by
  have hi := getI_put (row.length : Int) (row ++ more) (by omega) (by omega)
  have hg : getF (putI row.length ++ (row ++ more)) = (((putI row.length ++ (row ++ more)).drop (getI (putI row.length ++ (row ++ more))).2.1.toNat).take (getI (putI row.length ++ (row ++ more))).1.toNat, (getI (putI row.length ++ (row ++ more))).2.1 + (getI (putI row.length ++ (row ++ more))).1, 0) :=
    getF_good (by rw [hi]) (by rw [hi]; dsimp only; omega) (by rw [hi]; simp only [List.length_append]; omega)
  rw [hg, hi]
  dsimp only
  rw [Int.toNat_natCast, Int.toNat_natCast, List.drop_left, List.take_left]

/-! ### all frames -/
def walkF : Nat → List Int → List (List Int) × Int
  | 0, _ => ([], 0)
  | d + 1, b => if b = [] then ([], 0) else if (getF b).2.2 = 0 then ((getF b).1 :: (walkF d (b.drop (getF b).2.1.toNat)).1, (walkF d (b.drop (getF b).2.1.toNat)).2) else ([], (getF b).2.2)
theorem walkF_more (b : List Int) (hb : Bytes b) : ∀ d e, b.length ≤ d → b.length ≤ e → walkF d b = walkF e b := by
  intro d
  induction d generalizing b with
  | zero =>
    intro e h0 _
    have : b = [] := List.length_eq_zero_iff.1 (by omega)
    subst this
    cases e <;> simp [walkF]
  | succ d ih =>
    intro e h0 h1
    cases e with
    | zero =>
      have : b = [] := List.length_eq_zero_iff.1 (by omega)
      subst this
      simp [walkF]
    | succ e =>
      simp only [walkF]
      by_cases hn : b = []
      · rw [if_pos hn, if_pos hn]
      · rw [if_neg hn, if_neg hn]
        by_cases hc : (getF b).2.2 = 0
        · obtain ⟨h2, h3, _⟩ := getF_in hb hc
          rw [if_pos hc, if_pos hc, ih _ (hb.drop _) e (by rw [List.length_drop]; omega) (by rw [List.length_drop]; omega)]
        · rw [if_neg hc, if_neg hc]
def rowsF (b : List Int) : List (List Int) × Int := walkF b.length b
theorem rowsF_nil : rowsF [] = ([], 0) := rfl
theorem rowsF_ok {b : List Int} (hb : Bytes b) (hn : b ≠ []) (hc : (getF b).2.2 = 0) : rowsF b = ((getF b).1 :: (rowsF (b.drop (getF b).2.1.toNat)).1, (rowsF (b.drop (getF b).2.1.toNat)).2) := by
  obtain ⟨h2, h3, _⟩ := getF_in hb hc
  unfold rowsF
  cases hd : b.length with
  | zero => exact absurd (List.length_eq_zero_iff.1 hd) hn
  | succ d =>
    rw [walkF, if_neg hn, if_pos hc, walkF_more _ (hb.drop _) d (b.drop (getF b).2.1.toNat).length (by rw [List.length_drop]; omega) (Nat.le_refl _)]
theorem rowsF_bad {b : List Int} (hn : b ≠ []) (hc : ¬ (getF b).2.2 = 0) : rowsF b = ([], (getF b).2.2) := by
  unfold rowsF
  cases hd : b.length with
  | zero => exact absurd (List.length_eq_zero_iff.1 hd) hn
  | succ d => rw [walkF, if_neg hn, if_neg hc]
theorem rowsF_len (d : Nat) : ∀ (b : List Int), Bytes b → b.length ≤ d → (rowsF b).1.length ≤ d := by
  induction d with
  | zero => intro b _ h; have : b = [] := List.length_eq_zero_iff.1 (by omega); subst this; simp [rowsF_nil]
  | succ d ih =>
    intro b hb h
    by_cases hn : b = []
    · subst hn; simp [rowsF_nil]
    · by_cases hc : (getF b).2.2 = 0
      · obtain ⟨h2, h3, _⟩ := getF_in hb hc
        rw [rowsF_ok hb hn hc]
        have := ih (b.drop (getF b).2.1.toNat) (hb.drop _) (by rw [List.length_drop]; omega)
        simp; omega
      · rw [rowsF_bad hn hc]; simp
theorem rowsF_rows (d : Nat) : ∀ (b : List Int), Bytes b → b.length ≤ d → ∀ r ∈ (rowsF b).1, r.length ≤ 1200 ∧ Bytes r := by
  induction d with
  | zero => intro b _ h; have : b = [] := List.length_eq_zero_iff.1 (by omega); subst this; simp [rowsF_nil]
  | succ d ih =>
    intro b hb h
    by_cases hn : b = []
    · subst hn; simp [rowsF_nil]
    · by_cases hc : (getF b).2.2 = 0
      · obtain ⟨h2, h3, h4, h5⟩ := getF_in hb hc
        rw [rowsF_ok hb hn hc]
        intro r hr
        rcases List.mem_cons.1 hr with rfl | hr
        · exact ⟨h4, h5⟩
        · exact ih _ (hb.drop _) (by rw [List.length_drop]; omega) r hr
      · rw [rowsF_bad hn hc]; simp
theorem count_loop (d : Nat) : ∀ (b : List Int) (j : Int), Bytes b → b.length ≤ d → d ≤ 1000000000 → 0 ≤ j → j ≤ 10000000000 - d → Ev (fun k => frame_Count.l0 k b j) (j + (rowsF b).1.length) := by
  induction d with
  | zero =>
    intro b j _ h _ _ _
    have : b = [] := List.length_eq_zero_iff.1 (by omega)
    subst this
    rw [rowsF_nil]
    exact Ev.step (f := fun _ => some j) (fun k => by simp only [frame_Count.l0]; rw [if_neg (by simp)]) (by simpa using Ev.now j)
  | succ d ih =>
    intro b j hb h hd hj0 hj
    by_cases hn : b = []
    · subst hn
      rw [rowsF_nil]
      exact Ev.step (f := fun _ => some j) (fun k => by simp only [frame_Count.l0]; rw [if_neg (by simp)]) (by simpa using Ev.now j)
    · have hl : 0 < b.length := List.length_pos_iff.2 hn
      refine Ev.step (f := fun k => (frame_Get.f k b).bind fun t => (if t.2.2 = 0 then (if 0 ≤ t.2.1 then (if t.2.1 ≤ (b.length : Int) then (if j < 100000000000000 then (frame_Count.l0 k (b.drop t.2.1.toNat) (j + 1)) else (none)) else (none)) else (none)) else (some j))) (fun k => by simp only [frame_Count.l0]; rw [if_pos (by omega)]) ?_
      refine Ev.bind (fget_yes b hb (by omega)) ?_
      by_cases hc : (getF b).2.2 = 0
      · obtain ⟨h2, h3, _⟩ := getF_in hb hc
        refine Ev_if hc (Ev_if (by omega) (Ev_if (by omega) (Ev_if (by omega) ?_)))
        have := ih (b.drop (getF b).2.1.toNat) (j + 1) (hb.drop _) (by rw [List.length_drop]; omega) (by omega) (by omega) (by omega)
        rw [rowsF_ok hb hn hc]
        rw [show j + (((getF b).1 :: (rowsF (b.drop (getF b).2.1.toNat)).1).length : Int) = j + 1 + ((rowsF (b.drop (getF b).2.1.toNat)).1.length : Int) by simp; omega]
        exact this
      · refine Ev_else hc ?_
        rw [rowsF_bad hn hc]
        simpa using Ev.now j
theorem count_yes (b : List Int) (hb : Bytes b) (h : b.length ≤ 1000000000) : Ev (fun k => frame_Count.f k b) ((rowsF b).1.length : Int) := by
  have := count_loop b.length b 0 hb (Nat.le_refl _) h (by omega) (by omega)
  rw [Int.zero_add] at this
  exact this
theorem all_loop (b : List Int) (hb : Bytes b) (hbl : b.length ≤ 1000000000) (d : Nat) : ∀ (i : Nat) (acc : List (List Int)), b.length - i ≤ d → i ≤ b.length → acc.length + d ≤ 1000000000 → Ev (fun k => embrasureref02_All.l0 k b acc i) (acc ++ (rowsF (b.drop i)).1, (rowsF (b.drop i)).2) := by
  induction d with
  | zero =>
    intro i acc h hi _
    rw [List.drop_eq_nil_of_le (by omega), rowsF_nil]
    exact Ev.step (f := fun _ => some (acc, 0)) (fun k => by simp only [embrasureref02_All.l0]; rw [if_neg (by omega)]) (by simpa using Ev.now (acc, (0 : Int)))
  | succ d ih =>
    intro i acc h hi ha
    by_cases he : i = b.length
    · rw [List.drop_eq_nil_of_le (by omega), rowsF_nil]
      exact Ev.step (f := fun _ => some (acc, 0)) (fun k => by simp only [embrasureref02_All.l0]; rw [if_neg (by omega)]) (by simpa using Ev.now (acc, (0 : Int)))
    · have hn : b.drop i ≠ [] := fun e => by have := congrArg List.length e; simp at this; omega
      have hbd := hb.drop i
      refine Ev.step (f := fun k => (embrasureref02_Get.f k (b.drop i)).bind fun t => (if t.2.2 = 0 then (if acc.length < 5864062014805 then (embrasureref02_All.l0 k b (acc ++ [t.1]) (wrap64 ((i : Int) + t.2.1))) else (none)) else (some (acc, t.2.2)))) (fun k => by
        simp only [embrasureref02_All.l0]; rw [if_pos (by omega), if_pos (by omega), if_pos (by omega), Int.toNat_natCast]) ?_
      refine Ev.bind (rfget_yes _ hbd (by rw [List.length_drop]; omega)) ?_
      by_cases hc : (getF (b.drop i)).2.2 = 0
      · obtain ⟨h2, h3, _⟩ := getF_in hbd hc
        rw [List.length_drop] at h3
        refine Ev_if hc (Ev_if (by omega) ?_)
        rw [wr _ (by omega) (by omega)]
        have := ih (i + (getF (b.drop i)).2.1.toNat) (acc ++ [(getF (b.drop i)).1]) (by omega) (by omega) (by simp; omega)
        rw [show (i : Int) + (getF (b.drop i)).2.1 = ((i + (getF (b.drop i)).2.1.toNat : Nat) : Int) by omega]
        rw [rowsF_ok hbd hn hc, List.drop_drop]
        simpa using this
      · refine Ev_else hc ?_
        rw [rowsF_bad hn hc]
        simpa using Ev.now (acc, (getF (b.drop i)).2.2)
theorem all_yes (b : List Int) (hb : Bytes b) (h : b.length ≤ 500000000) : Ev (fun k => embrasureref02_All.f k b) (rowsF b) := by
  have := all_loop b hb (by omega) b.length 0 [] (by omega) (by omega) (by simp; omega)
  rw [List.drop_zero, List.nil_append] at this
  exact this

/-! ### rows joined -/
def joinF (rows : List (List Int)) : List Int := rows.flatMap fun r => putI r.length ++ r
def joinA (rows : List (List Int)) : List Int × Int := if rows.any (fun r => decide (1200 < r.length)) then ([], 4) else (joinF rows, 0)
theorem joinF_len : ∀ (rows : List (List Int)) (m : Nat), (∀ r ∈ rows, r.length ≤ m) → (joinF rows).length ≤ rows.length * (9 + m)
  | [], _, _ => by simp [joinF]
  | r :: rs, m, h => by
    have h1 := joinF_len rs m (fun x hx => h x (by simp [hx]))
    have h2 := h r (by simp)
    have h9 := putI_len_le (r.length : Int)
    have : joinF (r :: rs) = (putI r.length ++ r) ++ joinF rs := rfl
    rw [this, List.length_append, List.length_append, List.length_cons, Nat.add_mul, Nat.one_mul]
    omega
theorem joinF_bytes : ∀ (rows : List (List Int)), (∀ r ∈ rows, Bytes r) → Bytes (joinF rows)
  | [], _ => fun x hx => by simp [joinF] at hx
  | r :: rs, h => by
    have : joinF (r :: rs) = (putI r.length ++ r) ++ joinF rs := rfl
    rw [this]
    exact Bytes.app (Bytes.app (putI_bytes _ (by omega)) (h r (by simp))) (joinF_bytes rs (fun x hx => h x (by simp [hx])))
theorem rowsF_join : ∀ (rows : List (List Int)) (more : List Int), (∀ r ∈ rows, r.length ≤ 1200 ∧ Bytes r) → Bytes more → rowsF (joinF rows ++ more) = (rows ++ (rowsF more).1, (rowsF more).2)
  | [], more, _, _ => by simp [joinF]
  | r :: rs, more, h, hm => by
    have e : joinF (r :: rs) ++ more = putI r.length ++ (r ++ (joinF rs ++ more)) := by
      have : joinF (r :: rs) = (putI r.length ++ r) ++ joinF rs := rfl
      rw [this]; simp
    have hb : Bytes (putI r.length ++ (r ++ (joinF rs ++ more))) := Bytes.app (putI_bytes _ (by omega)) (Bytes.app (h r (by simp)).2 (Bytes.app (joinF_bytes rs (fun x hx => (h x (by simp [hx])).2)) hm))
    have hg := getF_put r (joinF rs ++ more) (h r (by simp)).1
    rw [e, rowsF_ok hb (by
      intro e0
      have h2 := enc_ne 8 (r.length : Int)
      have h1 := (List.append_eq_nil_iff.1 e0).1
      unfold putI at h1
      rw [if_pos (by have := (h r (by simp)).1; omega)] at h1
      exact h2 h1) (by rw [hg]), hg]
    dsimp only
    rw [show (((putI r.length).length : Int) + r.length).toNat = (putI r.length).length + r.length by omega, ← List.append_assoc, ← List.length_append, List.drop_left,
      rowsF_join rs more (fun x hx => h x (by simp [hx])) hm]
    rfl
theorem rd_row (rows : List (List Int)) (i : Nat) (h : i < rows.length) : rd_L1 rows (i : Int) = rows[i] := by
  unfold rd_L1
  rw [Int.toNat_natCast, List.getD_eq_getElem?_getD, List.getElem?_eq_getElem h]; rfl
theorem join_loop (rows : List (List Int)) (hr : rows.length ≤ 1000) (d : Nat) : ∀ (i : Nat) (acc : List Int), rows.length - i = d → i ≤ rows.length → acc.length + d * 1209 ≤ 100000000 →
    Ev (fun k => frame_Join.l0 k acc rows rows.length i) (if (rows.drop i).any (fun r => decide (1200 < r.length)) then ([], 4) else (acc ++ joinF (rows.drop i), 0)) := by
  induction d with
  | zero =>
    intro i acc h hi _
    rw [List.drop_eq_nil_of_le (by omega), List.any_nil]
    exact Ev.step (f := fun _ => some (acc, 0)) (fun k => by simp only [frame_Join.l0]; rw [if_neg (by omega)]) (by simpa [joinF] using Ev.now (acc, (0 : Int)))
  | succ d ih =>
    intro i acc h hi ha
    have hlt : i < rows.length := by omega
    refine Ev.step (f := fun k => (frame_Put.f k rows[i]).bind fun t => (if t.2 = 0 then (if acc.length + t.1.length < 140737488355328 then (frame_Join.l0 k (acc ++ t.1) rows rows.length (wrap64 ((i : Int) + 1))) else (none)) else (some (([] : List Int), t.2)))) (fun k => by
      simp only [frame_Join.l0]; rw [if_pos (by omega), if_pos (by omega), if_pos (by omega), rd_row rows i hlt]) ?_
    rw [List.drop_eq_getElem_cons hlt, List.any_cons]
    by_cases hb : 1200 < rows[i].length
    · refine Ev.bind (fput_no _ hb) (Ev_else (by decide) ?_)
      rw [decide_eq_true hb, Bool.true_or, if_pos rfl]
      exact Ev.now _
    · have h9 := putI_len_le (rows[i].length : Int)
      refine Ev.bind (fput_yes _ (by omega)) (Ev_if rfl (Ev_if (by simp; omega) ?_))
      rw [wr _ (by omega) (by omega), decide_eq_false hb, Bool.false_or]
      have := ih (i + 1) (acc ++ (putI (rows[i].length : Int) ++ rows[i])) (by omega) (by omega) (by simp; omega)
      rw [show ((i : Int) + 1) = ((i + 1 : Nat) : Int) by omega]
      have e : joinF (rows[i] :: rows.drop (i + 1)) = (putI (rows[i].length : Int) ++ rows[i]) ++ joinF (rows.drop (i + 1)) := rfl
      rw [e]
      simpa only [List.append_assoc] using this
theorem join_yes (rows : List (List Int)) (hr : rows.length ≤ 1000) : Ev (fun k => frame_Join.f k rows) (joinA rows) := by
  have := join_loop rows hr rows.length 0 [] (by omega) (by omega) (by simp; omega)
  rw [List.drop_zero, List.nil_append] at this
  exact this
theorem joinA_app (a b : List (List Int)) : joinA (a ++ b) = if (joinA a).2 = 0 ∧ (joinA b).2 = 0 then ((joinA a).1 ++ (joinA b).1, 0) else ([], 4) := by
  unfold joinA
  rw [List.any_append]
  cases ha : a.any (fun r => decide (1200 < r.length)) <;> cases hb : b.any (fun r => decide (1200 < r.length)) <;> simp [joinF]
theorem joinA_ok {rows : List (List Int)} (h : (joinA rows).2 = 0) : (∀ r ∈ rows, r.length ≤ 1200) ∧ joinA rows = (joinF rows, 0) := by
  unfold joinA at *
  cases hb : rows.any (fun r => decide (1200 < r.length))
  · refine ⟨fun r hr => ?_, by simp⟩
    have := List.any_eq_false.1 hb r hr
    simp at this
    omega
  · rw [hb] at h; simp at h

end Go.Proofs.Ytcngadkcnnkimaa.Fr
