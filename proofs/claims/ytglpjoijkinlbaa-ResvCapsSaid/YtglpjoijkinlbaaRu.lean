/-
  ResvOrder, plain: what is there while peers ask from hosts of their own. Condition: limits that may be.
-/
import Derived.Test.YtglpjoijkinlbaaRm
namespace Go.Proofs.Ytglpjoijkinlbaa.Rv
open Go.RowKit Go.Maps
set_option linter.unusedVariables false
set_option linter.unusedSimpArgs false
def OInv (l : LimV) (L : List HeldP) : Prop := Ris L ∧ (L.length : Int) ≤ l.1 ∧ ∀ x ∈ L, 1 ≤ x.1 ∧ x.1 ≤ 256 ∧ x.2.1 = x.1 ∧ x.2.2 = capT (0 + l.2.2.2.1)
theorem oinv_start {l : LimV} (h : mayL l = true) : OInv l [] := by
  obtain ⟨⟨h1, _⟩, _⟩ := (mayL_iff l).1 h
  exact ⟨ris_nil, by simpa using h1, fun x hx => by cases hx⟩
theorem oinv_over {l : LimV} {L : List HeldP} (hm : mayL l = true) (h : OInv l L) : overL L 0 = L := by
  obtain ⟨_, _, _, ⟨h7, h8, _⟩, _⟩ := (mayL_iff l).1 hm
  refine over_none fun x hx => ?_
  rw [(h.2.2 x hx).2.2.2]
  unfold capT
  split <;> omega
theorem del_lt {L : List HeldP} {p : Int} (h : hasL L p = true) : (delL L p).length < L.length := by
  unfold delL
  obtain ⟨x, hx, he⟩ := List.any_eq_true.1 h
  exact List.length_filter_lt_length_iff_exists.2 ⟨x, hx, by simpa using he⟩
theorem put_len {L : List HeldP} (h : HeldP) : (putL L h).length ≤ L.length + 1 := by
  unfold putL
  rw [ins_len]
  exact Nat.succ_le_succ (List.length_filter_le _ _)
theorem put_has {L : List HeldP} (h : HeldP) (hh : hasL L h.1 = true) : (putL L h).length ≤ L.length := by
  unfold putL
  rw [ins_len]
  exact del_lt hh
theorem res_cases (l : LimV) (L : List HeldP) (t p host : Int) : (resG l L t p host).2.2 = L ∨ ((resG l L t p host).2.2 = putL L (p, host, capT (t + l.2.2.2.1)) ∧ (hasL L p = true ∨ (L.length : Int) < l.1)) := by
  unfold resG
  split
  · exact .inl rfl
  · split
    · exact .inl rfl
    · rename_i h1 h2
      refine .inr ⟨rfl, ?_⟩
      cases hh : hasL L p with
      | true => exact .inl rfl
      | false => exact .inr (Int.not_le.1 (fun hx => h2 ⟨hh, hx⟩))
theorem oinv_step {l : LimV} {L : List HeldP} (h : OInv l L) (p : Int) (h1 : 1 ≤ p) (h2 : p ≤ 256) : OInv l (resG l L 0 p p).2.2 := by
  rcases res_cases l L 0 p p with e | ⟨e, hl⟩
  · rw [e]; exact h
  · rw [e]
    refine ⟨ris_put h.1 _, ?_, fun x hx => ?_⟩
    · rcases hl with hl | hl
      · have := put_has (p, p, capT (0 + l.2.2.2.1)) hl
        have := h.2.1
        omega
      · have := put_len (L := L) (p, p, capT (0 + l.2.2.2.1))
        omega
    · rcases putL_mem.1 hx with rfl | ⟨hx, _⟩
      · exact ⟨h1, h2, rfl, rfl⟩
      · exact h.2.2 x hx
def lastP (pre : List HeldP) : Int := ((pre.getLast?).map (·.1)).getD 0
theorem lastP_snoc (pre : List HeldP) (x : HeldP) : lastP (pre ++ [x]) = x.1 := by
  unfold lastP
  simp
theorem last_lt {L pre r : List HeldP} {x : HeldP} (h : Ris L) (h0 : ∀ y ∈ L, 1 ≤ y.1) (e : pre ++ x :: r = L) : lastP pre < x.1 := by
  subst e
  have hx := h0 x (by simp)
  unfold lastP
  cases hp : pre.getLast? with
  | none => simp; omega
  | some y =>
    have hy : y ∈ pre := List.mem_of_getLast? hp
    have := (List.pairwise_append.1 h).2.2 y hy x (by simp)
    simpa using this
theorem has_mem {L : List HeldP} {x : HeldP} (h : x ∈ L) : hasL L x.1 = true := by
  unfold hasL
  exact List.any_eq_true.2 ⟨x, h, by simp⟩
end Go.Proofs.Ytglpjoijkinlbaa.Rv
