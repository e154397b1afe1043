/-
  Numbers one behind the other: what uvar.Each tells, and what the reference's Each comes to. Plain Lean.
-/
import Derived.Test.YteajlffchdbkjaaPureUv
namespace Go.Proofs.Yteajlffchdbkjaa.Uv
open Go.RowKit Go.Proofs.Yteajlffchdbkjaa.H Go.Proofs.YteajlffchdbkjaaW.PrintWords Go.Proofs.YteajlffchdbkjaaW.PrintLast Go.Proofs.YteajlffchdbkjaaW.PrintMore

/-! ### numbers one behind the other: where each begins, and what it is -/
def eachF : Nat → List Int → Int → List (Int × Int)
  | 0, _, _ => []
  | n + 1, l, at_ => if l = [] then [] else if (getI l).2.2 = 0 then (at_, (getI l).1) :: eachF n (l.drop (getI l).2.1.toNat) (at_ + (getI l).2.1) else []
def eachL (l : List Int) : List (Int × Int) := eachF l.length l 0
theorem eachF_nil : ∀ (n : Nat) (a : Int), eachF n [] a = []
  | 0, _ => rfl
  | n + 1, a => by simp [eachF]
theorem getI_k (l : List Int) (hl : ∀ x ∈ l, 0 ≤ x ∧ x ≤ 255) (h : (getI l).2.2 = 0) : 1 ≤ (getI l).2.1 ∧ (getI l).2.1 ≤ 9 ∧ (getI l).2.1 ≤ l.length ∧ 0 ≤ (getI l).1 ∧ (getI l).1 ≤ 9223372036854775807 := by
  rcases hd : getI l with ⟨v, k, c⟩
  rw [hd] at h
  simp only at h
  subst h
  obtain ⟨h0, h1, r, hr, hk⟩ := getI_ok l v k hl hd
  have hne : (putI v).length ≠ 0 := by unfold putI; rw [if_pos h1]; intro e; exact enc_ne 8 v (List.length_eq_zero_iff.1 e)
  have h9 := putI_len_le v
  have hll : l.length = (putI v).length + r.length := by rw [hr, List.length_append]
  dsimp only
  omega
theorem eachF_fuel (n : Nat) : ∀ (m : Nat) (l : List Int) (a : Int), (∀ x ∈ l, 0 ≤ x ∧ x ≤ 255) → l.length ≤ n → l.length ≤ m → eachF n l a = eachF m l a := by
  induction n with
  | zero =>
    intro m l a _ hn _
    obtain rfl : l = [] := List.length_eq_zero_iff.1 (by omega)
    rw [eachF_nil, eachF_nil]
  | succ n ih =>
    intro m l a hl hn hm
    by_cases h : l = []
    · subst h; rw [eachF_nil, eachF_nil]
    · have hp : 0 < l.length := List.length_pos_iff.2 h
      obtain ⟨m, rfl⟩ : ∃ m', m = m' + 1 := ⟨m - 1, by omega⟩
      simp only [eachF]
      rw [if_neg h, if_neg h]
      by_cases hc : (getI l).2.2 = 0
      · rw [if_pos hc, if_pos hc]
        have hk := getI_k l hl hc
        rw [ih m _ _ (fun x hx => hl x (List.mem_of_mem_drop hx)) (by rw [List.length_drop]; omega) (by rw [List.length_drop]; omega)]
      · rw [if_neg hc, if_neg hc]
/-- What is told from byte a on. -/
def restE (l : List Int) (a : Nat) : List (Int × Int) := eachF (l.length - a) (l.drop a) a
theorem restE_zero (l : List Int) : restE l 0 = eachL l := by simp [restE, eachL]
theorem restE_end (l : List Int) (a : Nat) (h : l.length ≤ a) : restE l a = [] := by
  unfold restE; rw [List.drop_eq_nil_of_le h, eachF_nil]
theorem restE_bad (l : List Int) (a : Nat) (h : (getI (l.drop a)).2.2 ≠ 0) : restE l a = [] := by
  unfold restE
  cases hn : l.length - a with
  | zero => rfl
  | succ n => simp [eachF, h]
theorem restE_step (l : List Int) (a : Nat) (hl : ∀ x ∈ l, 0 ≤ x ∧ x ≤ 255) (ha : a < l.length) (h : (getI (l.drop a)).2.2 = 0) :
    restE l a = ((a : Int), (getI (l.drop a)).1) :: restE l (a + (getI (l.drop a)).2.1.toNat) := by
  have hk := getI_k (l.drop a) (fun x hx => hl x (List.mem_of_mem_drop hx)) h
  unfold restE
  obtain ⟨n, hn⟩ : ∃ n, l.length - a = n + 1 := ⟨l.length - a - 1, by omega⟩
  have hne : l.drop a ≠ [] := by intro e; have := congrArg List.length e; simp at this; omega
  rw [hn, eachF, if_neg hne, if_pos h]
  congr 1
  rw [List.drop_drop]
  have hc : ((a + (getI (l.drop a)).2.1.toNat : Nat) : Int) = (a : Int) + (getI (l.drop a)).2.1 := by omega
  rw [hc]
  have hb2 : ∀ x ∈ l.drop (a + (getI (l.drop a)).2.1.toNat), 0 ≤ x ∧ x ≤ 255 := fun x hx => hl x (List.mem_of_mem_drop hx)
  exact eachF_fuel _ _ _ _ hb2 (by rw [List.length_drop]; omega) (by rw [List.length_drop]; omega)
theorem restE_len (l : List Int) (hl : ∀ x ∈ l, 0 ≤ x ∧ x ≤ 255) (d : Nat) : ∀ a : Nat, l.length - a ≤ d → (restE l a).length ≤ l.length - a := by
  induction d with
  | zero => intro a h; rw [restE_end l a (by omega)]; simp
  | succ d ih =>
    intro a h
    by_cases ha : a < l.length
    · by_cases hc : (getI (l.drop a)).2.2 = 0
      · have hk := getI_k (l.drop a) (fun x hx => hl x (List.mem_of_mem_drop hx)) hc
        rw [restE_step l a hl ha hc, List.length_cons]
        have := ih (a + (getI (l.drop a)).2.1.toNat) (by omega)
        rw [List.length_drop] at hk
        omega
      · rw [restE_bad l a hc]; simp
    · rw [restE_end l a (by omega)]; simp
theorem eachL_len (l : List Int) (hl : ∀ x ∈ l, 0 ≤ x ∧ x ≤ 255) : (eachL l).length ≤ l.length := by
  rw [← restE_zero]; have := restE_len l hl l.length 0 (by omega); omega

/-- Where numbers stand that are put one behind the other. -/
def posL : Int → List Int → List (Int × Int)
  | _, [] => []
  | a, v :: vs => (a, v) :: posL (a + (putI v).length) vs
theorem posL_snd : ∀ (vs : List Int) (a : Int), (posL a vs).map Prod.snd = vs
  | [], _ => rfl
  | v :: vs, a => by simp [posL, posL_snd vs]
theorem posL_length (vs : List Int) (a : Int) : (posL a vs).length = vs.length := by rw [← List.length_map (f := Prod.snd), posL_snd]
def flat (vs : List Int) : List Int := (vs.map putI).flatten
theorem flat_nil : flat [] = [] := rfl
theorem flat_cons (v : Int) (vs : List Int) : flat (v :: vs) = putI v ++ flat vs := by simp [flat]
theorem flat_snoc (vs : List Int) (v : Int) : flat (vs ++ [v]) = flat vs ++ putI v := by simp [flat]
theorem flat_bytes (vs : List Int) (h : ∀ v ∈ vs, 0 ≤ v) : ∀ x ∈ flat vs, 0 ≤ x ∧ x ≤ 255 := by
  intro x hx
  simp only [flat, List.mem_flatten, List.mem_map] at hx
  obtain ⟨_, ⟨v, hv, rfl⟩, hx⟩ := hx
  exact putI_bytes v (h v hv) x hx
theorem flat_len (vs : List Int) : (flat vs).length ≤ 9 * vs.length := by
  induction vs with
  | nil => simp [flat]
  | cons v vs ih => rw [flat_cons, List.length_append, List.length_cons]; have := putI_len_le v; omega
theorem eachF_flat (vs : List Int) : ∀ (n : Nat) (r : List Int) (a : Int), (∀ v ∈ vs, 0 ≤ v ∧ v ≤ 9223372036854775807) → (∀ x ∈ r, 0 ≤ x ∧ x ≤ 255) → (flat vs ++ r).length ≤ n →
    eachF n (flat vs ++ r) a = posL a vs ++ eachF n r (a + (flat vs).length) := by
  induction vs with
  | nil => intro n r a _ _ _; simp [flat, posL]
  | cons v vs ih =>
    intro n r a hv hr hn
    have hv0 := hv v (by simp)
    have hput := getI_put v (flat vs ++ r) hv0.1 hv0.2
    have hne : (putI v).length ≠ 0 := by unfold putI; rw [if_pos hv0.2]; intro e; exact enc_ne 8 v (List.length_eq_zero_iff.1 e)
    rw [flat_cons, List.append_assoc] at hn ⊢
    have hb : ∀ x ∈ flat vs ++ r, 0 ≤ x ∧ x ≤ 255 := by
      intro x hx
      rcases List.mem_append.1 hx with hx | hx
      · exact flat_bytes vs (fun v h => (hv v (by simp [h])).1) x hx
      · exact hr x hx
    rw [List.length_append] at hn
    obtain ⟨n, rfl⟩ : ∃ m, n = m + 1 := ⟨n - 1, by omega⟩
    have hn2 : (flat vs ++ r).length ≤ n := by omega
    have hz : putI v ++ (flat vs ++ r) ≠ [] := by intro e; have := congrArg List.length e; simp at this; simp [this] at hne
    rw [eachF, if_neg hz, hput]
    dsimp only
    rw [if_pos rfl, posL, List.cons_append]
    congr 1
    rw [Int.toNat_natCast, List.drop_left, ih n r (a + (putI v).length) (fun x h => hv x (by simp [h])) hr hn2]
    congr 1
    rw [List.length_append] at hn2
    rw [eachF_fuel n (n + 1) r _ hr (by omega) (by omega), List.length_append]
    congr 1
    omega
theorem eachL_flat (vs : List Int) (hv : ∀ v ∈ vs, 0 ≤ v ∧ v ≤ 9223372036854775807) : eachL (flat vs) = posL 0 vs := by
  have := eachF_flat vs (flat vs).length [] 0 hv (by simp) (by simp)
  rw [List.append_nil] at this
  unfold eachL
  rw [this, eachF_nil, List.append_nil]
theorem eachF_len_at (n : Nat) : ∀ (l : List Int) (a b : Int), (eachF n l a).length = (eachF n l b).length := by
  induction n with
  | zero => intros; rfl
  | succ n ih =>
    intro l a b
    simp only [eachF]
    split
    · rfl
    · split
      · rw [List.length_cons, List.length_cons, ih _ (a + _) (b + _)]
      · rfl
theorem eachL_behind (vs r : List Int) (hv : ∀ v ∈ vs, 0 ≤ v ∧ v ≤ 9223372036854775807) (hr : ∀ x ∈ r, 0 ≤ x ∧ x ≤ 255) : ∃ z, eachL (flat vs ++ r) = posL 0 vs ++ z ∧ z.length = (eachL r).length := by
  refine ⟨_, eachF_flat vs (flat vs ++ r).length r 0 hv hr (Nat.le_refl _), ?_⟩
  unfold eachL
  rw [eachF_len_at _ r _ 0, eachF_fuel _ r.length r 0 hr (by simp) (Nat.le_refl _)]


end Go.Proofs.Yteajlffchdbkjaa.Uv
