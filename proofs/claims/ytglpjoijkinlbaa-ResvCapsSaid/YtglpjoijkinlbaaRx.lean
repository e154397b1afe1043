/-
  ResvAgain, plain: peers that ask one behind the other, each from a host of its own; the first one asks again. Condition: limits that may be.
-/
import Derived.Test.YtglpjoijkinlbaaRu
namespace Go.Proofs.Ytglpjoijkinlbaa.Rv
open Go.RowKit Go.Maps
set_option linter.unusedVariables false
set_option linter.unusedSimpArgs false
def AInv (u : Int) (i : Nat) (L : List HeldP) : Prop := Ris L ∧ L.length = i ∧ (∀ x ∈ L, 1 ≤ x.1 ∧ x.1 ≤ i ∧ x.2.1 = x.1 ∧ x.2.2 = u) ∧ ∀ p : Int, 1 ≤ p → p ≤ i → hasL L p = true
theorem ainv_start (u : Int) : AInv u 0 [] := ⟨ris_nil, rfl, fun x hx => (List.not_mem_nil hx).elim, fun p h1 h2 => by omega⟩
theorem over_all {L : List HeldP} {t : Int} (h : ∀ x ∈ L, x.2.2 ≤ t) : overL L t = [] := by
  unfold overL
  rw [List.filter_eq_nil_iff]
  intro x hx
  have := h x hx
  simpa using this
theorem ainv_over {u t : Int} {i : Nat} {L : List HeldP} (h : AInv u i L) (ht : t < u) : overL L t = L := over_none fun x hx => by rw [(h.2.2.1 x hx).2.2.2]; exact ht
theorem ainv_none {u : Int} {i : Nat} {L : List HeldP} (h : AInv u i L) : hasL L ((i : Int) + 1) = false := by
  unfold hasL
  rw [List.any_eq_false]
  intro x hx
  have := (h.2.2.1 x hx).2.1
  simp
  omega
theorem ainv_from {u : Int} {i : Nat} {L : List HeldP} (h : AInv u i L) : fromL L ((i : Int) + 1) ((i : Int) + 1) = 0 := by
  unfold fromL
  rw [List.length_eq_zero_iff, List.filter_eq_nil_iff]
  intro x hx
  obtain ⟨h1, h2, h3, _⟩ := h.2.2.1 x hx
  simp [h3]
theorem ins_has (h : HeldP) (p : Int) : ∀ L : List HeldP, hasL (insL h L) p = (decide (h.1 = p) || hasL L p)
  | [] => by simp [insL, hasL]
  | x :: r => by
    unfold insL
    split
    · simp [hasL]
    · have := ins_has h p r
      unfold hasL at this ⊢
      rw [List.any_cons, this, List.any_cons]
      cases decide (x.1 = p) <;> cases decide (h.1 = p) <;> rfl
theorem ainv_deny {l : LimV} {u now : Int} {i : Nat} {L : List HeldP} (h : AInv u i L) (hp : l.2.1 = 0) : resG l L now ((i : Int) + 1) ((i : Int) + 1) = (0, 7, L) := by
  unfold resG
  rw [ainv_none h, ainv_from h, hp, if_pos ⟨.inl rfl, by omega⟩]
theorem ainv_step {l : LimV} {u now : Int} {i : Nat} {L : List HeldP} (h : AInv u i L) (hp : 0 < l.2.1) (hi : (i : Int) < l.1) (hu : capT (now + l.2.2.2.1) = u) :
    (resG l L now ((i : Int) + 1) ((i : Int) + 1)).1 = u ∧ (resG l L now ((i : Int) + 1) ((i : Int) + 1)).2.1 = 0 ∧ AInv u (i + 1) (resG l L now ((i : Int) + 1) ((i : Int) + 1)).2.2 := by
  have hn := ainv_none h
  obtain ⟨hr, hlen, hall, hcov⟩ := h
  have hno : ∀ x ∈ L, x.1 ≠ (i : Int) + 1 := fun x hx => by have := (hall x hx).2.1; omega
  unfold resG
  rw [hn, ainv_from ⟨hr, hlen, hall, hcov⟩, if_neg (fun h => by have := h.2; omega), if_neg (fun h => by have := h.2; omega), hu]
  refine ⟨rfl, rfl, ris_put hr _, ?_, fun x hx => ?_, fun p h1 h2 => ?_⟩
  · show (putL L _).length = _
    unfold putL
    rw [ins_len, del_none hno, hlen]
  · rcases putL_mem.1 hx with rfl | ⟨hx, _⟩
    · exact ⟨by dsimp only; omega, by dsimp only; omega, rfl, rfl⟩
    · obtain ⟨h1, h2, h3, h4⟩ := hall x hx
      exact ⟨h1, by omega, h3, h4⟩
  · show hasL (putL L _) p = true
    unfold putL
    rw [ins_has, del_none hno]
    by_cases e : (i : Int) + 1 = p
    · simp [e]
    · simp [hcov p h1 (by omega)]
theorem del_one {p : Int} : ∀ {L : List HeldP}, Ris L → hasL L p = true → (delL L p).length + 1 = L.length
  | [], _, h => by simp [hasL] at h
  | x :: r, hr, h => by
    obtain ⟨h1, h2⟩ := List.pairwise_cons.1 hr
    unfold delL
    by_cases e : x.1 = p
    · rw [List.filter_cons, if_neg (by simp [e])]
      have : r.filter (fun x => !decide (x.1 = p)) = r := by
        rw [List.filter_eq_self]
        intro y hy
        have := h1 y hy
        simp
        omega
      rw [this, List.length_cons]
    · rw [List.filter_cons, if_pos (by simp [e]), List.length_cons, List.length_cons]
      have h3 : hasL r p = true := by
        unfold hasL at h ⊢
        rw [List.any_cons, decide_eq_false e] at h
        simpa using h
      have := del_one h2 h3
      unfold delL at this
      omega
/-- The first one has asked again. -/
def BInv (u u2 : Int) (i : Nat) (L : List HeldP) : Prop := Ris L ∧ L.length = i ∧ ∀ x ∈ L, 1 ≤ x.1 ∧ x.1 ≤ i ∧ (x.1 = 1 → x.2.2 = u2) ∧ (x.2.2 = u ∨ x.2.2 = u2)
theorem ainv_again {l : LimV} {u u2 t : Int} {i : Nat} {L : List HeldP} (h : AInv u i L) (hi : 1 ≤ i) (hu : capT (t + l.2.2.2.1) = u2) :
    (resG l L t 1 1).1 = u2 ∧ (resG l L t 1 1).2.1 = 0 ∧ BInv u u2 i (resG l L t 1 1).2.2 := by
  obtain ⟨hr, hlen, hall, hcov⟩ := h
  have hh := hcov 1 (by omega) (by omega)
  obtain ⟨x, hx, hx1⟩ := List.any_eq_true.1 hh
  have hx1 : x.1 = 1 := by simpa using hx1
  have hg : (getL L 1).2.1 = 1 := by
    unfold getL
    cases hf : L.find? (fun x => decide (x.1 = 1)) with
    | none => exact absurd (List.find?_eq_none.1 hf x hx) (by simp [hx1])
    | some y =>
      have h1 := List.mem_of_find?_eq_some hf
      have h2 := List.find?_some hf
      show y.2.1 = 1
      rw [(hall y h1).2.2.1]
      simpa using h2
  unfold resG
  rw [hh, hg, if_neg (fun h => h.1.elim (fun e => by cases e) (fun e => e rfl)), if_neg (fun h => by cases h.1), hu]
  refine ⟨rfl, rfl, ris_put hr _, ?_, fun y hy => ?_⟩
  · show (putL L _).length = _
    unfold putL
    rw [ins_len, del_one hr hh, hlen]
  · rcases putL_mem.1 hy with rfl | ⟨hy, hy1⟩
    · exact ⟨by dsimp only; omega, by dsimp only; omega, fun _ => rfl, .inr rfl⟩
    · obtain ⟨h1, h2, h3, h4⟩ := hall y hy
      exact ⟨h1, h2, fun e => absurd e hy1, .inl h4⟩
def PInv (u now : Int) (i : Nat) (L : List HeldP) : Prop := Ris L ∧ L.length ≤ 100 ∧ ((i = 0 ∧ ∀ x ∈ L, x.2.2 ≤ now) ∨ (1 ≤ i ∧ AInv u i L))
theorem pinv_ainv {u now : Int} {i : Nat} {L : List HeldP} (h : PInv u now i L) (hu : now < u) : AInv u i (overL L now) := by
  obtain ⟨h1, h2, h3⟩ := h
  rcases h3 with ⟨rfl, h⟩ | ⟨h0, h⟩
  · rw [over_all h]; exact ainv_start u
  · rw [ainv_over h hu]; exact h
theorem pinv_step {l : LimV} {u now : Int} {i : Nat} {L : List HeldP} (h : PInv u now i L) (hn : now < u) (hp : 0 < l.2.1) (hi : (i : Int) < l.1) (hi2 : i < 100) (hu : capT (now + l.2.2.2.1) = u) :
    ∃ M, resG l (overL L now) now ((i : Int) + 1) ((i : Int) + 1) = (u, 0, M) ∧ PInv u now (i + 1) M := by
  obtain ⟨h1, h2, h3⟩ := ainv_step (pinv_ainv h hn) hp hi hu
  refine ⟨(resG l (overL L now) now ((i : Int) + 1) ((i : Int) + 1)).2.2, ?_, h3.1, ?_, .inr ⟨by omega, h3⟩⟩
  · exact Prod.ext h1 (Prod.ext h2 rfl)
  · rw [h3.2.1]; omega
theorem pinv_last {u now : Int} {i : Nat} {L : List HeldP} (h : PInv u now i L) (hi : 1 ≤ i) : AInv u i L := h.2.2.elim (fun h => absurd h.1 (by omega)) (fun h => h.2)
theorem again_step {l : LimV} {u u2 t : Int} {i : Nat} {L : List HeldP} (h : AInv u i L) (hi : 1 ≤ i) (ht : t < u) (hu : capT (t + l.2.2.2.1) = u2) :
    ∃ M, resG l (overL L t) t 1 1 = (u2, 0, M) ∧ BInv u u2 i M := by
  rw [ainv_over h ht]
  obtain ⟨h1, h2, h3⟩ := ainv_again h hi hu
  exact ⟨_, Prod.ext h1 (Prod.ext h2 rfl), h3⟩
theorem binv_over {u u2 t : Int} {i : Nat} {L : List HeldP} (h : BInv u u2 i L) (h1 : t < u) (h2 : t < u2) : overL L t = L := over_none fun x hx => by rcases (h.2.2 x hx).2.2.2 with e | e <;> rw [e] <;> assumption
theorem binv_next {u u2 now v : Int} {i : Nat} {L : List HeldP} (h : BInv u u2 i L) (h1 : u ≤ now) (h2 : u2 ≤ now) (hi : i < 100) : PInv v now 0 L := ⟨h.1, by rw [h.2.1]; omega, .inl ⟨rfl, fun x hx => by rcases (h.2.2 x hx).2.2.2 with e | e <;> rw [e] <;> assumption⟩⟩
end Go.Proofs.Ytglpjoijkinlbaa.Rv
