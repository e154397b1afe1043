/-
  What wire.FromBytes comes to, step by step, as a function of the bytes; what its parts keep to. Conditions: bytes are bytes.
-/
import Derived.Test.YtklcggcejaecdaaWj
namespace Go.Proofs.Ytklcggcejaecdaa.Wi
open Go.RowKit Go.Shelf Go.Proofs.Ytklcggcejaecdaa.H Go.Proofs.Ytklcggcejaecdaa.Uv Go.Proofs.Ytklcggcejaecdaa.Fr Go.Proofs.YtklcggcejaecdaaW.PrintWords Go.Proofs.YtklcggcejaecdaaW.PrintLast Go.Proofs.YtklcggcejaecdaaW.PrintMore
set_option linter.unusedVariables false
set_option linter.unusedSimpArgs false
/-- So many numbers read: they, what is left, and whether something was wrong. -/
def numsR : Nat → List Int → Bool → List Int × List Int × Bool
  | 0, x, b => ([], x, b)
  | n + 1, x, b => ((numR x b).1 :: (numsR n (numR x b).2.1 (numR x b).2.2).1, (numsR n (numR x b).2.1 (numR x b).2.2).2)
def badF : Int × List Int × List AddrP × List Int × Int := (0, [], [], [], 3)
def fromF (l : List Int) : Int × List Int × List AddrP × List Int × Int :=
  if (numR l false).2.2 = true ∨ 18 < (numR l false).1 then badF
  else if (numR (numsR (numsF (numR l false).1).toNat (numR l false).2.1 false).2.1 (numsR (numsF (numR l false).1).toNat (numR l false).2.1 false).2.2).2.2 = true ∨ 8 < (numR (numsR (numsF (numR l false).1).toNat (numR l false).2.1 false).2.1 (numsR (numsF (numR l false).1).toNat (numR l false).2.1 false).2.2).1 then badF
  else
    let N := numsR (numsF (numR l false).1).toNat (numR l false).2.1 false
    let q := numR N.2.1 N.2.2
    let a := addrsF q.1.toNat q.2.1 false
    let b := bodyR a.2.1 a.2.2
    if b.2 = true ∨ mayM (numR l false).1 N.1 a.1 b.1 = false then badF else ((numR l false).1, N.1, a.1, b.1, 0)
theorem comb_no1 {a : Int} {d : Int × Int × Int} (h : (comb a d).2.2 ≠ 0) : (comb a d).1 = 0 := by
  unfold comb at h ⊢
  split at h <;> rename_i hc
  · first | exact absurd rfl h | simp_all
  · simp_all
theorem getI_v0 {l : List Int} (h : (getI l).2.2 ≠ 0) : (getI l).1 = 0 := by
  unfold getI at h ⊢
  generalize true = f at h ⊢
  generalize 9 = n at h ⊢
  cases n with
  | zero => cases l <;> rfl
  | succ n =>
    cases l with
    | nil => rfl
    | cons c r =>
      simp only [D] at h ⊢
      split at h
      · rename_i hc
        rw [if_pos hc]
        split at h
        · rename_i hz; rw [if_pos hz]
        · exact absurd rfl h
      · rename_i hc
        rw [if_neg hc]
        exact comb_no1 h
theorem getI_rng {l : List Int} (hb : Bytes l) : 0 ≤ (getI l).1 ∧ (getI l).1 ≤ 9223372036854775807 := by
  by_cases h : (getI l).2.2 = 0
  · have := getI_in hb h; omega
  · rw [getI_v0 h]; omega
theorem numR_in {l : List Int} {b : Bool} (hb : Bytes l) : (0 ≤ (numR l b).1 ∧ (numR l b).1 ≤ 9223372036854775807) ∧ Bytes (numR l b).2.1 ∧ (numR l b).2.1.length ≤ l.length := by
  refine ⟨getI_rng hb, hb.drop _, ?_⟩
  unfold numR
  dsimp only
  rw [List.length_drop]
  omega
theorem numsR_in : ∀ (n : Nat) {l : List Int} {b : Bool}, Bytes l → (numsR n l b).1.length = n ∧ (∀ v ∈ (numsR n l b).1, 0 ≤ v ∧ v ≤ 9223372036854775807) ∧ Bytes (numsR n l b).2.1 ∧ (numsR n l b).2.1.length ≤ l.length
  | 0, l, b, hb => ⟨rfl, fun v hv => (by cases hv), hb, Nat.le_refl _⟩
  | n + 1, l, b, hb => by
    obtain ⟨h1, h2, h3⟩ := numR_in (b := b) hb
    obtain ⟨i1, i2, i3, i4⟩ := numsR_in n (b := (numR l b).2.2) h2
    refine ⟨by simp [numsR, i1], fun v hv => ?_, i3, Nat.le_trans i4 h3⟩
    simp only [numsR, List.mem_cons] at hv
    rcases hv with rfl | hv
    · exact h1
    · exact i2 v hv
theorem addrsF_in : ∀ (n : Nat) {l : List Int} {b : Bool}, Bytes l → (addrsF n l b).1.length ≤ n ∧ (∀ v ∈ (addrsF n l b).1, okA v) ∧ Bytes (addrsF n l b).2.1 ∧ (addrsF n l b).2.1.length ≤ l.length
  | 0, l, b, hb => ⟨Nat.le_refl _, fun v hv => (by cases hv), hb, Nat.le_refl _⟩
  | n + 1, l, b, hb => by
    simp only [addrsF]
    by_cases h : l.length < 6
    · rw [if_pos h]
      exact ⟨Nat.zero_le _, fun v hv => (by cases hv), hb, Nat.le_refl _⟩
    · rw [if_neg h]
      obtain ⟨i1, i2, i3, i4⟩ := addrsF_in n (b := (b || (addrV (l.take 6)).2.2 != 0)) (hb.drop 6)
      refine ⟨by simp; exact i1, fun v hv => ?_, i3, Nat.le_trans i4 (by rw [List.length_drop]; omega)⟩
      rcases List.mem_cons.1 hv with rfl | hv
      · exact addrV_range (fun z hz => hb z (List.mem_of_mem_take hz))
      · exact i2 v hv
theorem numsF_le (k : Int) : numsF k ≤ 6 := by
  unfold numsF
  split
  · omega
  · split
    · omega
    · have h : ∀ x ∈ numsL, x ≤ 6 := by decide
      by_cases hk : k.toNat < numsL.length
      · rw [List.getD_eq_getElem?_getD, List.getElem?_eq_getElem hk]
        exact h _ (List.getElem_mem hk)
      · rw [List.getD_eq_getElem?_getD, List.getElem?_eq_none (by omega)]
        decide
/-! ### rows of the call's own beside an object -/
theorem R_offG {α : Type} {d : Kd α} {e base : Nat} {w w1 : World} {v : Value} {xs : List α} {g t : Nat} {cs : Array Value} (h : d.R e w base (fun _ => True) v xs) (ho : OffG g w w1) (hg : w.heap[g]? = some (.cells cs t (0, 0))) (hE : ∀ q ∈ e :: d.E, q ≠ t) : d.R e w1 base (fun _ => True) v xs :=
  Kd.R_mono (Kd.R_step (Kd.R_bound h) (fun k hk hlt => ho.block k hlt (fun e => by
    injection e with e
    obtain ⟨_, _, _, q, hq, cells, hc⟩ := hk
    rw [e, hg] at hc
    injection hc with hc
    injection hc with _ hc
    exact hE q hq hc.symm))) (fun _ _ => trivial)
/-- The row of another kind was written. -/
theorem R_beside {α : Type} {d : Kd α} {e base : Nat} {w w1 : World} {v u : Value} {xs : List α} (h : d.R e w base (fun _ => True) v xs) (hg : w.grownBy w1 u.ownBlock) (hu : ∀ k, u.ownBlock = some k → ∀ q ∈ e :: d.E, ∀ cells, w.heap[k]? ≠ some (.cells cells q (0, 0))) : d.R e w1 base (fun _ => True) v xs :=
  Kd.R_mono (Kd.R_step (Kd.R_bound h) (fun k hk hlt => hg.block k hlt (fun e => by
    obtain ⟨_, _, _, q, hq, cells, hc⟩ := hk
    exact hu k e.symm q hq cells hc))) (fun _ _ => trivial)
theorem zeroM_cells : True := trivial
end Go.Proofs.Ytklcggcejaecdaa.Wi
