/-
  ResvCount, plain: how many are let. Conditions: limits that may be.
-/
import Derived.Test.YtglpjoijkinlbaaRh
namespace Go.Proofs.Ytglpjoijkinlbaa.Rv
open Go.RowKit Go.Maps
set_option linter.unusedVariables false
set_option linter.unusedSimpArgs false
def hostF (one : Bool) (p : Int) : Int := if one = true then 5 else p
def limF (one : Bool) (l : LimV) : Int := if one = true then (if l.1 < l.2.1 then l.1 else l.2.1) else if l.2.1 = 0 then 0 else l.1
def mnI (a b : Int) : Int := if b < a then b else a
def CInv (l : LimV) (one : Bool) (i : Nat) (L : List HeldP) : Prop := Ris L ∧ (L.length : Int) = mnI (i : Int) (limF one l) ∧ ∀ x ∈ L, 1 ≤ x.1 ∧ x.1 ≤ i ∧ x.2.2 = capT (0 + l.2.2.2.1) ∧ x.2.1 = hostF one x.1
theorem cinv_start (l : LimV) (one : Bool) (h : mayL l = true) : CInv l one 0 [] := by
  obtain ⟨⟨h1, h2⟩, ⟨h3, h4⟩, _⟩ := (mayL_iff l).1 h
  refine ⟨ris_nil, ?_, fun x hx => by cases hx⟩
  show ((0 : Nat) : Int) = _
  unfold mnI limF
  split <;> split <;> try split
  all_goals first | omega | (split at * <;> omega) | skip
theorem ins_len (h : HeldP) : ∀ L : List HeldP, (insL h L).length = L.length + 1
  | [] => rfl
  | x :: r => by
    unfold insL
    split
    · rfl
    · rw [List.length_cons, ins_len h r, List.length_cons]
theorem del_none {L : List HeldP} {p : Int} (h : ∀ x ∈ L, x.1 ≠ p) : delL L p = L := by
  unfold delL
  rw [List.filter_eq_self]
  intro x hx
  simp [h x hx]
theorem over_none {L : List HeldP} {t : Int} (h : ∀ x ∈ L, t < x.2.2) : overL L t = L := by
  unfold overL
  rw [List.filter_eq_self]
  intro x hx
  have := h x hx
  simp
  omega
theorem cinv_over {l : LimV} {one : Bool} {i : Nat} {L : List HeldP} (hm : mayL l = true) (h : CInv l one i L) : overL L 0 = L := by
  obtain ⟨_, _, _, ⟨h7, h8, _⟩, _⟩ := (mayL_iff l).1 hm
  refine over_none fun x hx => ?_
  rw [(h.2.2 x hx).2.2.1]
  unfold capT
  split <;> omega
theorem cinv_step {l : LimV} {one : Bool} {i : Nat} {L : List HeldP} (hm : mayL l = true) (h : CInv l one i L) (hi : i < 100) :
    ((resG l L 0 ((i : Int) + 1) (hostF one ((i : Int) + 1))).2.1 = 0 ∧ CInv l one (i + 1) (resG l L 0 ((i : Int) + 1) (hostF one ((i : Int) + 1))).2.2 ∧ (resG l L 0 ((i : Int) + 1) (hostF one ((i : Int) + 1))).2.2.length = L.length + 1) ∨
    (((resG l L 0 ((i : Int) + 1) (hostF one ((i : Int) + 1))).2.1 = 7 ∨ (resG l L 0 ((i : Int) + 1) (hostF one ((i : Int) + 1))).2.1 = 10) ∧ (resG l L 0 ((i : Int) + 1) (hostF one ((i : Int) + 1))).2.2 = L ∧ CInv l one (i + 1) L) := by
  obtain ⟨⟨l1, l2⟩, ⟨l3, l4⟩, _, ⟨l7, l8, _⟩, _⟩ := (mayL_iff l).1 hm
  obtain ⟨hr, hlen, hall⟩ := h
  have hno : ∀ x ∈ L, x.1 ≠ (i : Int) + 1 := fun x hx => by have := hall x hx; omega
  have hhas : hasL L ((i : Int) + 1) = false := by
    unfold hasL
    rw [List.any_eq_false]
    intro x hx
    simp [hno x hx]
  have hfrom : (fromL L (hostF one ((i : Int) + 1)) ((i : Int) + 1) : Int) = if one = true then (L.length : Int) else 0 := by
    unfold fromL
    by_cases ho : one = true
    · rw [if_pos ho]
      congr 2
      rw [List.filter_eq_self]
      intro x hx
      have := hall x hx
      simp [hno x hx, this.2.2.2, hostF, ho]
    · rw [if_neg ho]
      have : L.filter (fun x => !decide (x.1 = (i : Int) + 1) && decide (x.2.1 = hostF one ((i : Int) + 1))) = [] := by
        rw [List.filter_eq_nil_iff]
        intro x hx
        have h1 := hall x hx
        have h2 := hno x hx
        simp [h1.2.2.2, hostF, ho, h2]
      rw [this]
      rfl
  have stay : mnI (i : Int) (limF one l) = mnI ((i + 1 : Nat) : Int) (limF one l) → CInv l one (i + 1) L := fun e => ⟨hr, by rw [hlen, e], fun x hx => by obtain ⟨a, b, c, d⟩ := hall x hx; exact ⟨a, by omega, c, d⟩⟩
  unfold resG
  rw [hhas, hfrom]
  by_cases c1 : l.2.1 ≤ (if one = true then (L.length : Int) else 0)
  · right
    rw [if_pos ⟨.inl rfl, c1⟩]
    refine ⟨.inl rfl, rfl, stay ?_⟩
    unfold mnI limF at *
    by_cases ho : one = true
    · simp only [if_pos ho] at *
      split at hlen <;> (split at hlen <;> (split <;> (split <;> omega)))
    · simp only [if_neg ho] at *
      have e : l.2.1 = 0 := by omega
      simp only [if_pos e] at *
      split <;> (split <;> omega)
  · rw [if_neg (fun h => c1 h.2)]
    by_cases c2 : l.1 ≤ (L.length : Int)
    · right
      rw [if_pos ⟨rfl, c2⟩]
      refine ⟨.inr rfl, rfl, stay ?_⟩
      unfold mnI limF at *
      by_cases ho : one = true
      · simp only [if_pos ho] at *
        split at hlen <;> (split at hlen <;> (split <;> (split <;> omega)))
      · simp only [if_neg ho] at *
        have e : ¬ l.2.1 = 0 := by omega
        simp only [if_neg e] at *
        split at hlen <;> (split <;> (split <;> omega))
    · left
      rw [if_neg (fun h => c2 h.2)]
      have hput : (putL L ((i : Int) + 1, hostF one ((i : Int) + 1), capT (0 + l.2.2.2.1))).length = L.length + 1 := by
        unfold putL
        rw [ins_len, del_none hno]
      refine ⟨rfl, ⟨ris_put hr _, ?_, fun x hx => ?_⟩, hput⟩
      · dsimp only
        rw [hput]
        unfold mnI limF at *
        by_cases ho : one = true
        · simp only [if_pos ho] at *
          split at hlen <;> (split at hlen <;> (split <;> (split <;> omega)))
        · simp only [if_neg ho] at *
          have e : ¬ l.2.1 = 0 := by omega
          simp only [if_neg e] at *
          split at hlen <;> (split <;> omega)
      · rcases putL_mem.1 hx with rfl | ⟨hx, _⟩
        · exact ⟨by dsimp only; omega, by dsimp only; omega, rfl, rfl⟩
        · obtain ⟨a, b, c, d⟩ := hall x hx
          exact ⟨a, by omega, c, d⟩
end Go.Proofs.Ytglpjoijkinlbaa.Rv
