/-
  What the reference's Same of package wire comes to. Condition: none.
-/
import Derived.Test.YtklcggcejaecdaaWq
import Derived.Test.YtklcggcejaecdaaJx5
namespace Go.Proofs.Ytklcggcejaecdaa.J
open Go.RowKit Go.Shelf Go.Proofs.Ytklcggcejaecdaa.Wi Go.Proofs.Ytklcggcejaecdaa.Uv Go.Proofs.Ytklcggcejaecdaa.Fr Go.Proofs.YtklcggcejaecdaaW.PrintWords Go.Proofs.YtklcggcejaecdaaW.PrintLast Go.Proofs.YtklcggcejaecdaaW.PrintMore
set_option linter.unusedVariables false
set_option linter.unusedSimpArgs false
theorem rs_l1 (k0 : Int) (N : List Int) (L : List S45) (B : List Int) (k1 : Int) (N1 : List Int) (L1 : List S45) (B1 : List Int) (he : L.length = L1.length) (hl : L.length ≤ 1000000000) (d : Nat) : ∀ (i : Nat), i + d = L.length → Ev (fun k => embrasureref05_Same.l1 k i k0 N L B k1 N1 L1 B1) (decide ((L.drop i).map prS = (L1.drop i).map prS)) := by
  induction d with
  | zero =>
    intro i hi
    rw [List.drop_eq_nil_of_le (by omega), List.drop_eq_nil_of_le (by omega)]
    refine Ev.step (f := fun _ => some true) (fun k => ?_) (Ev.now _)
    simp only [embrasureref05_Same.l1]
    rw [if_neg (by omega)]
  | succ d ih =>
    intro i hi
    have h1 : i < L.length := by omega
    have h2 : i < L1.length := by omega
    rw [List.drop_eq_getElem_cons h1, List.drop_eq_getElem_cons h2, List.map_cons, List.map_cons]
    by_cases h : prS L[i] = prS L1[i]
    · have e0 : L[i].f0 = L1[i].f0 := congrArg Prod.fst h
      have e1 : L[i].f1 = L1[i].f1 := congrArg Prod.snd h
      refine Ev.step (f := fun k => embrasureref05_Same.l1 k ((i + 1 : Nat) : Int) k0 N L B k1 N1 L1 B1) (fun k => ?_) ?_
      · simp only [embrasureref05_Same.l1]
        rw [if_pos (by omega), if_pos (by omega), if_pos (by omega), rdT_get L i h1, rdT_get L1 i h2, if_neg (by simp [e0, e1]), wr _ (by omega) (by omega)]
        rfl
      · have := ih (i + 1) (by omega)
        rw [h]
        simp only [List.cons.injEq, true_and]
        exact this
    · refine Ev.step (f := fun _ => some false) (fun k => ?_) ?_
      · simp only [embrasureref05_Same.l1]
        rw [if_pos (by omega), if_pos (by omega), if_pos (by omega), rdT_get L i h1, rdT_get L1 i h2, if_pos]
        by_cases e0 : L[i].f0 = L1[i].f0
        · have e1 : L[i].f1 ≠ L1[i].f1 := fun e1 => h (by unfold prS; rw [e0, e1])
          simp [e1]
        · simp [e0]
      · rw [decide_eq_false (fun e => h (List.cons.inj e).1)]
        exact Ev.now _
theorem rs_l0 (k0 : Int) (N : List Int) (L : List S45) (B : List Int) (k1 : Int) (N1 : List Int) (L1 : List S45) (B1 : List Int) (hne : N.length = N1.length) (hn : N.length ≤ 1000000000) (he : L.length = L1.length) (hl : L.length ≤ 1000000000) (d : Nat) : ∀ (i : Nat), i + d = N.length → Ev (fun k => embrasureref05_Same.l0 k i k0 N L B k1 N1 L1 B1) (decide (N.drop i = N1.drop i ∧ L.map prS = L1.map prS)) := by
  induction d with
  | zero =>
    intro i hi
    rw [List.drop_eq_nil_of_le (by omega), List.drop_eq_nil_of_le (by omega)]
    simp only [true_and]
    refine Ev.step (f := fun k => embrasureref05_Same.l1 k ((0 : Nat) : Int) k0 N L B k1 N1 L1 B1) (fun k => ?_) (rs_l1 k0 N L B k1 N1 L1 B1 he hl L.length 0 (by omega))
    simp only [embrasureref05_Same.l0]
    rw [if_neg (by omega)]
    rfl
  | succ d ih =>
    intro i hi
    have h1 : i < N.length := by omega
    have h2 : i < N1.length := by omega
    rw [List.drop_eq_getElem_cons h1, List.drop_eq_getElem_cons h2]
    by_cases h : N[i] = N1[i]
    · refine Ev.step (f := fun k => embrasureref05_Same.l0 k ((i + 1 : Nat) : Int) k0 N L B k1 N1 L1 B1) (fun k => ?_) ?_
      · simp only [embrasureref05_Same.l0]
        rw [if_pos (by omega), if_pos (by omega), if_pos (by omega), rd_get N i h1, rd_get N1 i h2, if_pos h, wr _ (by omega) (by omega)]
        rfl
      · have := ih (i + 1) (by omega)
        rw [h]
        simp only [List.cons.injEq, true_and]
        exact this
    · refine Ev.step (f := fun _ => some false) (fun k => ?_) ?_
      · simp only [embrasureref05_Same.l0]
        rw [if_pos (by omega), if_pos (by omega), if_pos (by omega), rd_get N i h1, rd_get N1 i h2, if_neg h]
      · rw [decide_eq_false (fun e => h (List.cons.inj e.1).1)]
        exact Ev.now _
theorem rs_j0 (x : Bool) (k0 : Int) (N : List Int) (L : List S45) (B : List Int) (k1 : Int) (N1 : List Int) (L1 : List S45) (B1 : List Int) (h : x = false → N.length = N1.length ∧ L.length = L1.length) (hn : N.length ≤ 1000000000) (hl : L.length ≤ 1000000000) : Ev (fun k => embrasureref05_Same.j0 k x k0 N L B k1 N1 L1 B1) (!x && decide (N = N1 ∧ L.map prS = L1.map prS)) := by
  cases x with
  | true =>
    refine Ev.step (f := fun _ => some false) (fun k => ?_) (Ev.now _)
    simp only [embrasureref05_Same.j0]
    rw [if_pos trivial]
  | false =>
    obtain ⟨e1, e2⟩ := h rfl
    have := rs_l0 k0 N L B k1 N1 L1 B1 e1 hn e2 hl N.length 0 (by omega)
    simp only [List.drop_zero] at this
    refine Ev.step (f := fun k => embrasureref05_Same.l0 k ((0 : Nat) : Int) k0 N L B k1 N1 L1 B1) (fun k => ?_) this
    simp only [embrasureref05_Same.j0]
    rw [if_neg (by simp)]
    rfl
theorem rsame_yes (k0 : Int) (N : List Int) (L : List S45) (B : List Int) (k1 : Int) (N1 : List Int) (L1 : List S45) (B1 : List Int) (hn : N.length ≤ 1000000000) (hl : L.length ≤ 1000000000) (hb : B.length ≤ 1000000000) : Ev (fun k => embrasureref05_Same.f k k0 N L B k1 N1 L1 B1) (decide (k0 = k1 ∧ N = N1 ∧ L.map prS = L1.map prS ∧ B = B1)) := by
  have bad : ∀ (h : ¬ (k0 = k1 ∧ N = N1 ∧ L.map prS = L1.map prS ∧ B = B1)), Ev (fun k => embrasureref05_Same.j0 k true k0 N L B k1 N1 L1 B1) (decide (k0 = k1 ∧ N = N1 ∧ L.map prS = L1.map prS ∧ B = B1)) := by
    intro h
    rw [decide_eq_false h]
    exact rs_j0 true k0 N L B k1 N1 L1 B1 (fun e => by cases e) hn hl
  unfold embrasureref05_Same.f
  by_cases q1 : k0 = k1
  · by_cases q2 : (N.length : Int) = N1.length
    · by_cases q3 : (L.length : Int) = L1.length
      · simp only [if_pos q1, if_pos q2, if_pos q3]
        refine Ev.congr (f := fun k => embrasureref05_Same.j0 k (!decide (B = B1)) k0 N L B k1 N1 L1 B1) (fun k => ?_) ?_
        · unfold embrasureref01_Same.f
          rw [if_pos (by omega), Option.bind_some]
        · have := rs_j0 (!decide (B = B1)) k0 N L B k1 N1 L1 B1 (fun _ => ⟨by omega, by omega⟩) hn hl
          have e : decide (k0 = k1 ∧ N = N1 ∧ L.map prS = L1.map prS ∧ B = B1) = (!(!decide (B = B1)) && decide (N = N1 ∧ L.map prS = L1.map prS)) := by
            by_cases b1 : B = B1
            · simp [b1, q1]
            · simp [b1]
          rw [e]
          exact this
      · simp only [if_pos q1, if_pos q2, if_neg q3]
        refine bad fun h => q3 ?_
        have := congrArg List.length h.2.2.1
        simp only [List.length_map] at this
        omega
    · simp only [if_pos q1, if_neg q2]
      exact bad fun h => q2 (by rw [h.2.1])
  · simp only [if_neg q1]
    exact bad fun h => q1 h.1
end Go.Proofs.Ytklcggcejaecdaa.J
