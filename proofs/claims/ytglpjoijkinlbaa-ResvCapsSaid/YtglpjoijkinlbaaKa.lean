/-
  ResvCaps, plain: what no step breaks. Condition: limits that may be.
-/
import Derived.Test.YtglpjoijkinlbaaRx
namespace Go.Proofs.Ytglpjoijkinlbaa.Rv
open Go.RowKit Go.Maps
set_option linter.unusedVariables false
set_option linter.unusedSimpArgs false
def cntH (L : List HeldP) (h : Int) : Nat := (L.filter (fun x => decide (x.2.1 = h))).length
def KInv (l : LimV) (L : List HeldP) : Prop := Ris L ∧ (L.length : Int) ≤ l.1 ∧ (∀ h, (cntH L h : Int) ≤ l.2.1) ∧ ∀ x ∈ L, 1 ≤ x.1 ∧ x.1 ≤ 2147483647
theorem kinv_nil {l : LimV} (h : mayL l = true) : KInv l [] := by
  obtain ⟨⟨h1, _⟩, ⟨h2, _⟩, _⟩ := (mayL_iff l).1 h
  exact ⟨ris_nil, by simpa using h1, fun h => by simpa [cntH] using h2, fun x hx => (List.not_mem_nil hx).elim⟩
theorem cntH_filter (L : List HeldP) (f : HeldP → Bool) (h : Int) : cntH (L.filter f) h ≤ cntH L h := by
  unfold cntH
  rw [List.filter_filter]
  have : (L.filter (fun x => decide (x.2.1 = h) && f x)) = (L.filter (fun x => decide (x.2.1 = h))).filter f := by rw [List.filter_filter]; congr 1; funext x; rw [Bool.and_comm]
  rw [this]
  exact List.length_filter_le _ _
theorem kinv_filter {l : LimV} {L : List HeldP} (h : KInv l L) (f : HeldP → Bool) : KInv l (L.filter f) := by
  obtain ⟨h1, h2, h3, h4⟩ := h
  refine ⟨ris_filter h1 f, ?_, fun y => ?_, fun x hx => h4 x (List.mem_filter.1 hx).1⟩
  · have := List.length_filter_le f L; omega
  · have := cntH_filter L f y; have := h3 y; omega
theorem kinv_over {l : LimV} {L : List HeldP} (h : KInv l L) (t : Int) : KInv l (overL L t) := kinv_filter h _
theorem cntH_ins (h : HeldP) (y : Int) : ∀ L : List HeldP, cntH (insL h L) y = cntH L y + if h.2.1 = y then 1 else 0
  | [] => by
    unfold insL cntH
    by_cases e : h.2.1 = y <;> simp [e]
  | x :: r => by
    unfold insL
    split
    · unfold cntH
      by_cases e : h.2.1 = y <;> simp [List.filter_cons, e]
    · have := cntH_ins h y r
      unfold cntH at this ⊢
      rw [List.filter_cons, List.filter_cons]
      by_cases e : x.2.1 = y <;> simp [e] <;> omega
theorem cntH_del_from (L : List HeldP) (p h : Int) : cntH (delL L p) h = fromL L h p := by
  unfold cntH delL fromL
  rw [List.filter_filter]
  congr 2
  funext x
  rw [Bool.and_comm]
theorem cntH_del_one {p h : Int} : ∀ {L : List HeldP}, Ris L → hasL L p = true → (getL L p).2.1 = h → cntH (delL L p) h + 1 = cntH L h
  | [], _, h, _ => by simp [hasL] at h
  | x :: r, hr, hh, hg => by
    obtain ⟨h1, h2⟩ := List.pairwise_cons.1 hr
    unfold delL
    by_cases e : x.1 = p
    · have hx : x.2.1 = h := by
        unfold getL at hg
        rw [List.find?_cons, decide_eq_true e] at hg
        exact hg
      rw [List.filter_cons, if_neg (by simp [e])]
      have : r.filter (fun x => !decide (x.1 = p)) = r := by
        rw [List.filter_eq_self]
        intro y hy
        have := h1 y hy
        simp
        omega
      rw [this]
      unfold cntH
      rw [List.filter_cons, if_pos (by simpa using hx), List.length_cons]
    · rw [List.filter_cons, if_pos (by simp [e])]
      have h3 : hasL r p = true := by
        unfold hasL at hh ⊢
        rw [List.any_cons, decide_eq_false e] at hh
        simpa using hh
      have h4 : (getL r p).2.1 = h := by
        unfold getL at hg ⊢
        rw [List.find?_cons, decide_eq_false e] at hg
        exact hg
      have := cntH_del_one h2 h3 h4
      unfold delL cntH at this
      unfold cntH
      rw [List.filter_cons, List.filter_cons]
      by_cases e2 : x.2.1 = h
      · rw [if_pos (by simpa using e2), if_pos (by simpa using e2), List.length_cons, List.length_cons]; omega
      · rw [if_neg (by simpa using e2), if_neg (by simpa using e2)]; omega
theorem kinv_res {l : LimV} {L : List HeldP} (hk : KInv l L) (t p host : Int) (h1 : 1 ≤ p) (h2 : p ≤ 2147483647) : KInv l (resG l L t p host).2.2 := by
  unfold resG
  split
  · exact hk
  · split
    · exact hk
    · rename_i c1 c2
      obtain ⟨hr, hl, hc, hm⟩ := hk
      refine ⟨ris_put hr _, ?_, fun y => ?_, fun x hx => ?_⟩
      · cases hh : hasL L p with
        | true => have := put_has (p, host, capT (t + l.2.2.2.1)) hh; dsimp only; omega
        | false =>
          have := put_len (L := L) (p, host, capT (t + l.2.2.2.1))
          have := Int.not_le.1 (fun h => c2 ⟨hh, h⟩)
          dsimp only
          omega
      · show (cntH (putL L _) y : Int) ≤ _
        unfold putL
        rw [cntH_ins]
        dsimp only
        have h5 := hc y
        have h6 : cntH (delL L p) y ≤ cntH L y := cntH_filter L _ y
        by_cases e : host = y
        · subst e
          rw [if_pos rfl]
          by_cases hf : hasL L p = false ∨ (getL L p).2.1 ≠ host
          · have h7 := Int.not_le.1 (fun h => c1 ⟨hf, h⟩)
            rw [cntH_del_from]
            omega
          · have hth : hasL L p = true := by
              cases hh : hasL L p with
              | true => rfl
              | false => exact absurd (.inl hh) hf
            have hgg : (getL L p).2.1 = host := Classical.byContradiction (fun h => hf (.inr h))
            have := cntH_del_one hr hth hgg
            omega
        · rw [if_neg e]; omega
      · rcases putL_mem.1 hx with rfl | ⟨hx, _⟩
        · exact ⟨h1, h2⟩
        · exact hm x hx
/-- What is told fits what is there. -/
theorem res_fits (l : LimV) (L : List HeldP) (t p host : Int) : ((resG l L t p host).2.1 ≠ 0 ∧ (resG l L t p host).2.2 = L) ∨ ((resG l L t p host).2.1 = 0 ∧ (resG l L t p host).1 = capT (t + l.2.2.2.1) ∧ (resG l L t p host).2.2 = putL L (p, host, capT (t + l.2.2.2.1))) := by
  unfold resG
  split
  · exact .inl ⟨(fun h => by cases h), rfl⟩
  · split
    · exact .inl ⟨(fun h => by cases h), rfl⟩
    · exact .inr ⟨rfl, rfl, rfl⟩
theorem over_mem {L : List HeldP} {t : Int} : ∀ x ∈ overL L t, t < x.2.2 := fun x hx => by
  have := (List.mem_filter.1 hx).2
  simpa using this
theorem over_self {L : List HeldP} {t : Int} : overL (overL L t) t = overL L t := over_none over_mem
/-- A step's answer: what it did with the rows. -/
def Step (l : LimV) (L : List HeldP) (t p host u f : Int) (M : List HeldP) : Prop := (f ≠ 0 ∧ M = L) ∨ (f = 0 ∧ u = capT (t + l.2.2.2.1) ∧ M = putL L (p, host, u))
theorem step_over {l : LimV} {L : List HeldP} {t p host u f : Int} {M : List HeldP} (h : Step l L t p host u f M) (hL : ∀ x ∈ L, t < x.2.2) (hl : 1 ≤ l.2.2.2.1) (ht : t < 1099511627776) : ∀ x ∈ M, t < x.2.2 := by
  rcases h with ⟨_, rfl⟩ | ⟨_, rfl, rfl⟩
  · exact hL
  · intro x hx
    rcases putL_mem.1 hx with rfl | ⟨hx, _⟩
    · show t < capT _
      unfold capT
      split <;> omega
    · exact hL x hx
theorem step_row {l : LimV} {L : List HeldP} {t p host u f : Int} {M : List HeldP} (h : Step l L t p host u f M) (hf : f = 0) : ∀ x ∈ M, x.1 = p → x.2.2 = u ∧ x.2.1 = host := by
  rcases h with ⟨h, _⟩ | ⟨_, _, rfl⟩
  · exact absurd hf h
  · intro x hx e
    rcases putL_mem.1 hx with rfl | ⟨_, h⟩
    · exact ⟨rfl, rfl⟩
    · exact absurd e h
theorem cnt_snoc (pre : List HeldP) (x : HeldP) (h : Int) : cntH (pre ++ [x]) h = cntH pre h + if x.2.1 = h then 1 else 0 := by
  unfold cntH
  rw [List.filter_append, List.length_append]
  congr 1
  by_cases e : x.2.1 = h <;> simp [e]
end Go.Proofs.Ytglpjoijkinlbaa.Rv
