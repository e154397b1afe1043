/-
  WireFields, out of what its functions come to. Condition: numbers are of their kinds.
-/
import Derived.Test.YtklcggcejaecdaaWo
import Derived.Test.YtklcggcejaecdaaJx10
namespace Go.Proofs.Ytklcggcejaecdaa.J
open Go.RowKit Go.Shelf Go.Proofs.Ytklcggcejaecdaa.Wi Go.Proofs.Ytklcggcejaecdaa.Uv Go.Proofs.Ytklcggcejaecdaa.Fr Go.Proofs.YtklcggcejaecdaaW.PrintWords Go.Proofs.YtklcggcejaecdaaW.PrintLast Go.Proofs.YtklcggcejaecdaaW.PrintMore
set_option linter.unusedVariables false
set_option linter.unusedSimpArgs false
theorem one_mid {α : Type} (l : List α) (i : Nat) (h : i < l.length) : (l.take (i + 1)).drop i = [l[i]] := by
  rw [List.drop_take, Nat.add_sub_cancel_left, List.drop_eq_getElem_cons h]
  rfl
theorem may_num (v : Int) (h : 0 ≤ v ∧ v ≤ 18446744073709551615) : wire_May.f 5 [v] ([] : List S45) [] = some (!badN v) := by
  rw [wmay_f (fun x hx => by rw [List.mem_singleton.1 hx]; exact h) (fun a ha => by cases ha) (by simp) (by simp)]
  have e : numsF 5 = 1 := by decide
  simp [mayM, e]
theorem may_addr (a : S45) (h : okA (prS a)) : wire_May.f 5 [0] [a] [] = some (!badA (prS a)) := by
  rw [wmay_f (fun x hx => by rw [List.mem_singleton.1 hx]; omega) (fun x hx => by rw [List.mem_singleton.1 hx]; exact h) (by simp) (by simp)]
  have e : numsF 5 = 1 := by decide
  have e0 : badN 0 = false := by decide
  simp [mayM, e, e0]
theorem fields_l1 (kind : Int) (N : List Int) (L : List S45) (B : List Int) (hN : InN N) (hL : InS L) (hn : N.length ≤ 40) (hl : L.length ≤ 40) (d : Nat) : ∀ (i : Nat) (x : Bool), i + d = L.length → Ev (fun k => embrasurelaw05_WireFields.l1 k x i kind N L B) (mayM kind N (L.map prS) B == (x && !((L.drop i).map prS).any badA)) := by
  induction d with
  | zero =>
    intro i x hi
    rw [List.drop_eq_nil_of_le (by omega)]
    refine Ev.step (f := fun _ => some (mayM kind N (L.map prS) B == x)) (fun k => ?_) ?_
    · simp only [embrasurelaw05_WireFields.l1]
      rw [if_neg (by omega), wmay_f hN hL (by omega) (by omega), Option.bind_some]
    · simp only [List.map_nil, List.any_nil, Bool.not_false, Bool.and_true]
      exact Ev.now _
  | succ d ih =>
    intro i x hi
    have h1 : i < L.length := by omega
    have hx := hL L[i] (List.getElem_mem h1)
    have e : (x && !((L.drop i).map prS).any badA) = ((x && !badA (prS L[i])) && !((L.drop (i + 1)).map prS).any badA) := by
      rw [List.drop_eq_getElem_cons h1, List.map_cons, List.any_cons]
      cases x <;> cases badA (prS L[i]) <;> simp
    rw [e]
    refine Ev.step (f := fun k => embrasurelaw05_WireFields.l1 k (x && !badA (prS L[i])) ((i + 1 : Nat) : Int) kind N L B) (fun k => ?_) (ih (i + 1) _ (by omega))
    simp only [embrasurelaw05_WireFields.l1]
    rw [if_pos (by omega), wr ((i : Int) + 1) (by omega) (by omega)]
    cases x with
    | false =>
      rw [if_neg (by simp)]
      rfl
    | true =>
      rw [if_pos rfl, if_pos (by omega), if_pos (by omega), if_pos (by omega), show ((i : Int) + 1).toNat = i + 1 by omega, Int.toNat_natCast, one_mid L i h1, may_addr _ hx, Option.bind_some, Bool.true_and]
      rfl
theorem fields_l0 (kind : Int) (N : List Int) (L : List S45) (B : List Int) (hN : InN N) (hL : InS L) (hn : N.length ≤ 40) (hl : L.length ≤ 40) (d : Nat) : ∀ (i : Nat) (x : Bool), i + d = N.length → Ev (fun k => embrasurelaw05_WireFields.l0 k x i kind N L B) (mayM kind N (L.map prS) B == ((x && !(N.drop i).any badN) && !(L.map prS).any badA)) := by
  induction d with
  | zero =>
    intro i x hi
    rw [List.drop_eq_nil_of_le (by omega)]
    refine Ev.step (f := fun k => embrasurelaw05_WireFields.l1 k x ((0 : Nat) : Int) kind N L B) (fun k => ?_) ?_
    · simp only [embrasurelaw05_WireFields.l0]
      rw [if_neg (by omega)]
      rfl
    · simp only [List.any_nil, Bool.not_false, Bool.and_true]
      exact fields_l1 kind N L B hN hL hn hl L.length 0 x (by omega)
  | succ d ih =>
    intro i x hi
    have h1 : i < N.length := by omega
    have hx := hN N[i] (List.getElem_mem h1)
    have e : (x && !(N.drop i).any badN) = ((x && !badN N[i]) && !(N.drop (i + 1)).any badN) := by
      rw [List.drop_eq_getElem_cons h1, List.any_cons]
      cases x <;> cases badN N[i] <;> simp
    rw [e]
    refine Ev.step (f := fun k => embrasurelaw05_WireFields.l0 k (x && !badN N[i]) ((i + 1 : Nat) : Int) kind N L B) (fun k => ?_) (ih (i + 1) _ (by omega))
    simp only [embrasurelaw05_WireFields.l0]
    rw [if_pos (by omega), wr ((i : Int) + 1) (by omega) (by omega)]
    cases x with
    | false =>
      rw [if_neg (by simp)]
      rfl
    | true =>
      rw [if_pos rfl, if_pos (by omega), if_pos (by omega), if_pos (by omega), show ((i : Int) + 1).toNat = i + 1 by omega, Int.toNat_natCast, one_mid N i h1, may_num _ hx, Option.bind_some, Bool.true_and]
      rfl
theorem fields_j0 (kind : Int) (N : List Int) (L : List S45) (B : List Int) (hN : InN N) (hL : InS L) (hn : N.length ≤ 40) (hl : L.length ≤ 40) (x : Bool) (hx : x = decide ((N.length : Int) = numsF kind ∧ L.length ≤ 8 ∧ B.length ≤ 1000)) : Ev (fun k => embrasurelaw05_WireFields.j0 k x kind N L B) true := by
  have := fields_l0 kind N L B hN hL hn hl N.length 0 x (by omega)
  rw [List.drop_zero] at this
  have e : (mayM kind N (L.map prS) B == ((x && !N.any badN) && !(L.map prS).any badA)) = true := by
    unfold mayM
    rw [List.length_map, ← hx, Bool.and_assoc]
    simp
  rw [e] at this
  exact Ev.step (f := fun k => embrasurelaw05_WireFields.l0 k x ((0 : Nat) : Int) kind N L B) (fun k => by simp only [embrasurelaw05_WireFields.j0]; rfl) this
theorem fields_yes {kind : Int} {N : List Int} {L : List S45} {B : List Int} (hN : InN N) (hL : InS L) : Ev (fun k => embrasurelaw05_WireFields.f k kind N L B) true := by
  unfold embrasurelaw05_WireFields.f
  refine law_in (fun ⟨hn, hl, hb⟩ => ?_) (fun _ => Ev.now _)
  have J := fields_j0 kind N L B hN hL hn hl
  simp only [nums_f, Option.bind_some]
  by_cases q1 : numsF kind = (N.length : Int)
  · refine Ev_if q1 ?_
    by_cases q2 : (L.length : Int) ≤ 8
    · refine Ev_if q2 (J _ ?_)
      have q2' : L.length ≤ 8 := by omega
      simp only [q1, q2', true_and]
      by_cases q3 : B.length ≤ 1000
      · rw [decide_eq_true q3, decide_eq_true (by omega : (B.length : Int) ≤ 1000)]
      · rw [decide_eq_false q3, decide_eq_false (by omega : ¬ (B.length : Int) ≤ 1000)]
    · exact Ev_else q2 (J _ (decide_eq_false (fun h => q2 (by omega))).symm)
  · exact Ev_else q1 (J _ (decide_eq_false (fun h => q1 h.1.symm)).symm)
theorem fields_row (cs0 : Array Value) (x0 : MsgV) (w : World) (hr0 : dMsg.K w x0 (Value.agg cs0).cells.toList) (hw0 : okMsg x0) : Calls Try.prog 6 #[.agg cs0] w fun e w' => e = .returned (.bool true) ∧ Below w.heap.size w w' := by
  obtain ⟨A1, c1, A2, c2, A3, c3, rfl, r1, r2, r3⟩ := msg_cells hr0
  obtain ⟨k, h⟩ := (fields_yes (kind := x0.1) (B := x0.2.2.2) hw0.2.1 hw0.2.2.1).rounds
  exact embrasurelaw05_WireFields.calls k x0.1 A1 c1 x0.2.1 A2 c2 x0.2.2.1 A3 c3 x0.2.2.2 true w r1.1 r1.2 r2.1 r2.2 r3.1 r3.2 h
end Go.Proofs.Ytklcggcejaecdaa.J
