/-
  resv: whether limits may be; a new table. Conditions: numbers are of their kinds.
  resv: a new table; awake. Conditions: numbers are of their kinds.
  resv: all reservations, handed back as an iterator: its row of peers, its clone of the map. Conditions: as the theorem states them.
  resv: (*Table).All: what it hands back. Conditions: as the theorem states them.
  resv: what (*Table).All hands back, as an iterator: it tells all, by rising peers. Conditions: as the theorem states them.
  A range over an iterator that tells, at each yield, what lies behind the value that it hands on; resv's All is one: it tells each row behind those ahead. Conditions: as the theorems state them.
-/
import Derived.Test.YteajlffchdbkjaaMRa
import Derived.Test.YteajlffchdbkjaaMRb
import Derived.Test.YteajlffchdbkjaaShelf
import Derived.Shelf.SortM.Plain
import Derived.Shelf.SortM.SortNone
import Derived.RangeFuncKeeps
import Derived.RangeFuncBox
import Derived.RangeFuncLeaves
import Derived.RangeFuncCalls
import Derived.RangeFuncBound
import Derived.RangeFuncNested
import Derived.BigRegion
import Derived.RangeFuncFrom
import Derived.RangeFuncWrites
namespace Go.Proofs.Yteajlffchdbkjaa.Rv
open Go.RowKit Go.Maps Go.Shelf Go.Proofs.YteajlffchdbkjaaW.PrintWords Go.Proofs.YteajlffchdbkjaaW.PrintLast Go.Proofs.YteajlffchdbkjaaW.PrintMore
set_option linter.unusedVariables false
set_option linter.unusedSimpArgs false
attribute [local go_sem] Oper.semAt_some
def inW (x m : Int) : Bool := decide (0 ≤ x) && decide (x ≤ m)
set_option maxRecDepth 100000 in
theorem within_calls (W : World) (x m : Int) : Calls Try.prog 38 #[.int .i64 x, .int .i64 m] W fun e w' => e = .returned (.bool (inW x m)) ∧ w' = W := by
  unfold inW
  by_cases h1 : x ≥ 0
  · have b1 : decide (x ≥ 0) = true := decide_eq_true h1
    have b0 : decide (0 ≤ x) = true := decide_eq_true (by omega)
    rw [b0, Bool.true_and]
    clear b0
    go_enter Try.func38, Try.ntmps38
    go_wp2
    go_ret
    exact ⟨rfl, rfl⟩
  · have b1 : decide (x ≥ 0) = false := decide_eq_false h1
    have b0 : decide (0 ≤ x) = false := decide_eq_false (by omega)
    rw [b0, Bool.false_and]
    clear b0
    go_enter Try.func38, Try.ntmps38
    go_wp2
    go_ret
    exact ⟨rfl, rfl⟩
def mayT (l : Int × Int × Int × Int × Int × Int) : Bool := (decide (l.2.2.2.1 ≥ 1) && (decide (l.2.2.2.1 ≤ 1099511627776) && (decide (l.2.2.2.2.1 ≥ 1) && decide (l.2.2.2.2.1 ≤ 1099511627776))))
def mayL (l : Int × Int × Int × Int × Int × Int) : Bool := inW l.1 100 && (inW l.2.1 100 && (inW l.2.2.1 100 && (mayT l && inW l.2.2.2.2.2 1073741824)))
def limC (l : Int × Int × Int × Int × Int × Int) : Array Value := #[.int .i64 l.1, .int .i64 l.2.1, .int .i64 l.2.2.1, .int .i64 l.2.2.2.1, .int .i64 l.2.2.2.2.1, .int .i64 l.2.2.2.2.2]
set_option maxRecDepth 100000 in
set_option maxHeartbeats 4000000 in
theorem rvmay_calls (W : World) (a b c d e f : Int) : Calls Try.prog 21 #[.agg #[.int .i64 a, .int .i64 b, .int .i64 c, .int .i64 d, .int .i64 e, .int .i64 f]] W fun en w' => en = .returned (.bool (mayL (a, b, c, d, e, f))) ∧ W.grownBy w' none := by
  obtain ⟨X, hX⟩ : ∃ X, W.alloc (.cells #[.int .i64 a, .int .i64 b, .int .i64 c, .int .i64 d, .int .i64 e, .int .i64 f] 23) = X := ⟨_, rfl⟩
  have hg : W.grownBy X none := by rw [← hX]; exact World.grownBy_alloc W _ none
  have hc := new_cellsN W 23 #[.int .i64 a, .int .i64 b, .int .i64 c, .int .i64 d, .int .i64 e, .int .i64 f]
  rw [hX] at hc
  have c0 := cell_cellsN hc 0 (by simp)
  have c1 := cell_cellsN hc 1 (by simp)
  have c2 := cell_cellsN hc 2 (by simp)
  have c3 := cell_cellsN hc 3 (by simp)
  have c4 := cell_cellsN hc 4 (by simp)
  have c5 := cell_cellsN hc 5 (by simp)
  simp only [List.getElem_toArray, List.getElem_cons_zero, List.getElem_cons_succ] at c0 c1 c2 c3 c4 c5
  have HG := Lib.hid hg
  obtain ⟨q1, h1⟩ : ∃ q, inW a 100 = q := ⟨_, rfl⟩
  obtain ⟨q2, h2⟩ : ∃ q, inW b 100 = q := ⟨_, rfl⟩
  obtain ⟨q3, h3⟩ : ∃ q, inW c 100 = q := ⟨_, rfl⟩
  obtain ⟨q6, h6⟩ : ∃ q, inW f 1073741824 = q := ⟨_, rfl⟩
  obtain ⟨d1, e1⟩ : ∃ q, decide (d ≥ 1) = q := ⟨_, rfl⟩
  obtain ⟨d2, e2⟩ : ∃ q, decide (d ≤ 1099511627776) = q := ⟨_, rfl⟩
  obtain ⟨d3, e3⟩ : ∃ q, decide (e ≥ 1) = q := ⟨_, rfl⟩
  obtain ⟨d4, e4⟩ : ∃ q, decide (e ≤ 1099511627776) = q := ⟨_, rfl⟩
  have K1 := within_calls X a 100
  have K2 := within_calls X b 100
  have K3' := within_calls X c 100
  have K6 := within_calls X f 1073741824
  rw [h1] at K1
  rw [h2] at K2
  rw [h3] at K3'
  rw [h6] at K6
  have K1 := Lib.hid K1
  have K2 := Lib.hid K2
  have K3' := Lib.hid K3'
  have K6 := Lib.hid K6
  have HM := Lib.hid (show mayL (a, b, c, d, e, f) = (q1 && (q2 && (q3 && ((d1 && (d2 && (d3 && d4))) && q6)))) by unfold mayL mayT; rw [h1, h2, h3, h6, e1, e2, e3, e4])
  rw [HM.out]
  clear hg hc h1 h2 h3 h6 HM
  have fin : ∀ (z : Bool) (V : World), V = X → (z = (q1 && (q2 && (q3 && ((d1 && (d2 && (d3 && d4))) && q6))))) → Ending.returned (.bool z) = .returned (.bool (q1 && (q2 && (q3 && ((d1 && (d2 && (d3 && d4))) && q6))))) ∧ W.grownBy V none := by
    rintro z V rfl rfl
    exact ⟨rfl, HG.out⟩
  have FIN := Lib.hid fin
  clear fin
  go_enter Try.func21, Try.ntmps21
  cases d1 with
  | false =>
    cases q1 with
    | false =>
      go_wp2_with (first
        | (go_at_call 38; with_reducible refine K1.out.mono ?_; rintro e w2 ⟨rfl, rfl⟩)
        | (go_at_call 38; with_reducible refine K2.out.mono ?_; rintro e w2 ⟨rfl, rfl⟩)
        | (go_at_call 38; with_reducible refine K3'.out.mono ?_; rintro e w2 ⟨rfl, rfl⟩)
        | (go_at_call 38; with_reducible refine K6.out.mono ?_; rintro e w2 ⟨rfl, rfl⟩))
      go_ret
      exact FIN.out _ _ rfl (by simp)
    | true =>
      cases q2 with
      | false =>
        go_wp2_with (first
          | (go_at_call 38; with_reducible refine K1.out.mono ?_; rintro e w2 ⟨rfl, rfl⟩)
          | (go_at_call 38; with_reducible refine K2.out.mono ?_; rintro e w2 ⟨rfl, rfl⟩)
          | (go_at_call 38; with_reducible refine K3'.out.mono ?_; rintro e w2 ⟨rfl, rfl⟩)
          | (go_at_call 38; with_reducible refine K6.out.mono ?_; rintro e w2 ⟨rfl, rfl⟩))
        go_ret
        exact FIN.out _ _ rfl (by simp)
      | true =>
        cases q3 with
        | false =>
          go_wp2_with (first
            | (go_at_call 38; with_reducible refine K1.out.mono ?_; rintro e w2 ⟨rfl, rfl⟩)
            | (go_at_call 38; with_reducible refine K2.out.mono ?_; rintro e w2 ⟨rfl, rfl⟩)
            | (go_at_call 38; with_reducible refine K3'.out.mono ?_; rintro e w2 ⟨rfl, rfl⟩)
            | (go_at_call 38; with_reducible refine K6.out.mono ?_; rintro e w2 ⟨rfl, rfl⟩))
          go_ret
          exact FIN.out _ _ rfl (by simp)
        | true =>
          go_wp2_with (first
            | (go_at_call 38; with_reducible refine K1.out.mono ?_; rintro e w2 ⟨rfl, rfl⟩)
            | (go_at_call 38; with_reducible refine K2.out.mono ?_; rintro e w2 ⟨rfl, rfl⟩)
            | (go_at_call 38; with_reducible refine K3'.out.mono ?_; rintro e w2 ⟨rfl, rfl⟩)
            | (go_at_call 38; with_reducible refine K6.out.mono ?_; rintro e w2 ⟨rfl, rfl⟩))
          go_ret
          exact FIN.out _ _ rfl (by simp)
  | true =>
    cases d2 with
    | false =>
      cases q1 with
      | false =>
        go_wp2_with (first
          | (go_at_call 38; with_reducible refine K1.out.mono ?_; rintro e w2 ⟨rfl, rfl⟩)
          | (go_at_call 38; with_reducible refine K2.out.mono ?_; rintro e w2 ⟨rfl, rfl⟩)
          | (go_at_call 38; with_reducible refine K3'.out.mono ?_; rintro e w2 ⟨rfl, rfl⟩)
          | (go_at_call 38; with_reducible refine K6.out.mono ?_; rintro e w2 ⟨rfl, rfl⟩))
        go_ret
        exact FIN.out _ _ rfl (by simp)
      | true =>
        cases q2 with
        | false =>
          go_wp2_with (first
            | (go_at_call 38; with_reducible refine K1.out.mono ?_; rintro e w2 ⟨rfl, rfl⟩)
            | (go_at_call 38; with_reducible refine K2.out.mono ?_; rintro e w2 ⟨rfl, rfl⟩)
            | (go_at_call 38; with_reducible refine K3'.out.mono ?_; rintro e w2 ⟨rfl, rfl⟩)
            | (go_at_call 38; with_reducible refine K6.out.mono ?_; rintro e w2 ⟨rfl, rfl⟩))
          go_ret
          exact FIN.out _ _ rfl (by simp)
        | true =>
          cases q3 with
          | false =>
            go_wp2_with (first
              | (go_at_call 38; with_reducible refine K1.out.mono ?_; rintro e w2 ⟨rfl, rfl⟩)
              | (go_at_call 38; with_reducible refine K2.out.mono ?_; rintro e w2 ⟨rfl, rfl⟩)
              | (go_at_call 38; with_reducible refine K3'.out.mono ?_; rintro e w2 ⟨rfl, rfl⟩)
              | (go_at_call 38; with_reducible refine K6.out.mono ?_; rintro e w2 ⟨rfl, rfl⟩))
            go_ret
            exact FIN.out _ _ rfl (by simp)
          | true =>
            go_wp2_with (first
              | (go_at_call 38; with_reducible refine K1.out.mono ?_; rintro e w2 ⟨rfl, rfl⟩)
              | (go_at_call 38; with_reducible refine K2.out.mono ?_; rintro e w2 ⟨rfl, rfl⟩)
              | (go_at_call 38; with_reducible refine K3'.out.mono ?_; rintro e w2 ⟨rfl, rfl⟩)
              | (go_at_call 38; with_reducible refine K6.out.mono ?_; rintro e w2 ⟨rfl, rfl⟩))
            go_ret
            exact FIN.out _ _ rfl (by simp)
    | true =>
      cases d3 with
      | false =>
        cases q1 with
        | false =>
          go_wp2_with (first
            | (go_at_call 38; with_reducible refine K1.out.mono ?_; rintro e w2 ⟨rfl, rfl⟩)
            | (go_at_call 38; with_reducible refine K2.out.mono ?_; rintro e w2 ⟨rfl, rfl⟩)
            | (go_at_call 38; with_reducible refine K3'.out.mono ?_; rintro e w2 ⟨rfl, rfl⟩)
            | (go_at_call 38; with_reducible refine K6.out.mono ?_; rintro e w2 ⟨rfl, rfl⟩))
          go_ret
          exact FIN.out _ _ rfl (by simp)
        | true =>
          cases q2 with
          | false =>
            go_wp2_with (first
              | (go_at_call 38; with_reducible refine K1.out.mono ?_; rintro e w2 ⟨rfl, rfl⟩)
              | (go_at_call 38; with_reducible refine K2.out.mono ?_; rintro e w2 ⟨rfl, rfl⟩)
              | (go_at_call 38; with_reducible refine K3'.out.mono ?_; rintro e w2 ⟨rfl, rfl⟩)
              | (go_at_call 38; with_reducible refine K6.out.mono ?_; rintro e w2 ⟨rfl, rfl⟩))
            go_ret
            exact FIN.out _ _ rfl (by simp)
          | true =>
            cases q3 with
            | false =>
              go_wp2_with (first
                | (go_at_call 38; with_reducible refine K1.out.mono ?_; rintro e w2 ⟨rfl, rfl⟩)
                | (go_at_call 38; with_reducible refine K2.out.mono ?_; rintro e w2 ⟨rfl, rfl⟩)
                | (go_at_call 38; with_reducible refine K3'.out.mono ?_; rintro e w2 ⟨rfl, rfl⟩)
                | (go_at_call 38; with_reducible refine K6.out.mono ?_; rintro e w2 ⟨rfl, rfl⟩))
              go_ret
              exact FIN.out _ _ rfl (by simp)
            | true =>
              go_wp2_with (first
                | (go_at_call 38; with_reducible refine K1.out.mono ?_; rintro e w2 ⟨rfl, rfl⟩)
                | (go_at_call 38; with_reducible refine K2.out.mono ?_; rintro e w2 ⟨rfl, rfl⟩)
                | (go_at_call 38; with_reducible refine K3'.out.mono ?_; rintro e w2 ⟨rfl, rfl⟩)
                | (go_at_call 38; with_reducible refine K6.out.mono ?_; rintro e w2 ⟨rfl, rfl⟩))
              go_ret
              exact FIN.out _ _ rfl (by simp)
      | true =>
        cases d4 with
        | false =>
          cases q1 with
          | false =>
            go_wp2_with (first
              | (go_at_call 38; with_reducible refine K1.out.mono ?_; rintro e w2 ⟨rfl, rfl⟩)
              | (go_at_call 38; with_reducible refine K2.out.mono ?_; rintro e w2 ⟨rfl, rfl⟩)
              | (go_at_call 38; with_reducible refine K3'.out.mono ?_; rintro e w2 ⟨rfl, rfl⟩)
              | (go_at_call 38; with_reducible refine K6.out.mono ?_; rintro e w2 ⟨rfl, rfl⟩))
            go_ret
            exact FIN.out _ _ rfl (by simp)
          | true =>
            cases q2 with
            | false =>
              go_wp2_with (first
                | (go_at_call 38; with_reducible refine K1.out.mono ?_; rintro e w2 ⟨rfl, rfl⟩)
                | (go_at_call 38; with_reducible refine K2.out.mono ?_; rintro e w2 ⟨rfl, rfl⟩)
                | (go_at_call 38; with_reducible refine K3'.out.mono ?_; rintro e w2 ⟨rfl, rfl⟩)
                | (go_at_call 38; with_reducible refine K6.out.mono ?_; rintro e w2 ⟨rfl, rfl⟩))
              go_ret
              exact FIN.out _ _ rfl (by simp)
            | true =>
              cases q3 with
              | false =>
                go_wp2_with (first
                  | (go_at_call 38; with_reducible refine K1.out.mono ?_; rintro e w2 ⟨rfl, rfl⟩)
                  | (go_at_call 38; with_reducible refine K2.out.mono ?_; rintro e w2 ⟨rfl, rfl⟩)
                  | (go_at_call 38; with_reducible refine K3'.out.mono ?_; rintro e w2 ⟨rfl, rfl⟩)
                  | (go_at_call 38; with_reducible refine K6.out.mono ?_; rintro e w2 ⟨rfl, rfl⟩))
                go_ret
                exact FIN.out _ _ rfl (by simp)
              | true =>
                go_wp2_with (first
                  | (go_at_call 38; with_reducible refine K1.out.mono ?_; rintro e w2 ⟨rfl, rfl⟩)
                  | (go_at_call 38; with_reducible refine K2.out.mono ?_; rintro e w2 ⟨rfl, rfl⟩)
                  | (go_at_call 38; with_reducible refine K3'.out.mono ?_; rintro e w2 ⟨rfl, rfl⟩)
                  | (go_at_call 38; with_reducible refine K6.out.mono ?_; rintro e w2 ⟨rfl, rfl⟩))
                go_ret
                exact FIN.out _ _ rfl (by simp)
        | true =>
          cases q1 with
          | false =>
            go_wp2_with (first
              | (go_at_call 38; with_reducible refine K1.out.mono ?_; rintro e w2 ⟨rfl, rfl⟩)
              | (go_at_call 38; with_reducible refine K2.out.mono ?_; rintro e w2 ⟨rfl, rfl⟩)
              | (go_at_call 38; with_reducible refine K3'.out.mono ?_; rintro e w2 ⟨rfl, rfl⟩)
              | (go_at_call 38; with_reducible refine K6.out.mono ?_; rintro e w2 ⟨rfl, rfl⟩))
            go_ret
            exact FIN.out _ _ rfl (by simp)
          | true =>
            cases q2 with
            | false =>
              go_wp2_with (first
                | (go_at_call 38; with_reducible refine K1.out.mono ?_; rintro e w2 ⟨rfl, rfl⟩)
                | (go_at_call 38; with_reducible refine K2.out.mono ?_; rintro e w2 ⟨rfl, rfl⟩)
                | (go_at_call 38; with_reducible refine K3'.out.mono ?_; rintro e w2 ⟨rfl, rfl⟩)
                | (go_at_call 38; with_reducible refine K6.out.mono ?_; rintro e w2 ⟨rfl, rfl⟩))
              go_ret
              exact FIN.out _ _ rfl (by simp)
            | true =>
              cases q3 with
              | false =>
                go_wp2_with (first
                  | (go_at_call 38; with_reducible refine K1.out.mono ?_; rintro e w2 ⟨rfl, rfl⟩)
                  | (go_at_call 38; with_reducible refine K2.out.mono ?_; rintro e w2 ⟨rfl, rfl⟩)
                  | (go_at_call 38; with_reducible refine K3'.out.mono ?_; rintro e w2 ⟨rfl, rfl⟩)
                  | (go_at_call 38; with_reducible refine K6.out.mono ?_; rintro e w2 ⟨rfl, rfl⟩))
                go_ret
                exact FIN.out _ _ rfl (by simp)
              | true =>
                cases q6 with
                | false =>
                  go_wp2_with (first
                    | (go_at_call 38; with_reducible refine K1.out.mono ?_; rintro e w2 ⟨rfl, rfl⟩)
                    | (go_at_call 38; with_reducible refine K2.out.mono ?_; rintro e w2 ⟨rfl, rfl⟩)
                    | (go_at_call 38; with_reducible refine K3'.out.mono ?_; rintro e w2 ⟨rfl, rfl⟩)
                    | (go_at_call 38; with_reducible refine K6.out.mono ?_; rintro e w2 ⟨rfl, rfl⟩))
                  go_ret
                  exact FIN.out _ _ rfl (by simp)
                | true =>
                  go_wp2_with (first
                    | (go_at_call 38; with_reducible refine K1.out.mono ?_; rintro e w2 ⟨rfl, rfl⟩)
                    | (go_at_call 38; with_reducible refine K2.out.mono ?_; rintro e w2 ⟨rfl, rfl⟩)
                    | (go_at_call 38; with_reducible refine K3'.out.mono ?_; rintro e w2 ⟨rfl, rfl⟩)
                    | (go_at_call 38; with_reducible refine K6.out.mono ?_; rintro e w2 ⟨rfl, rfl⟩))
                  go_ret
                  exact FIN.out _ _ rfl (by simp)
end Go.Proofs.Yteajlffchdbkjaa.Rv
namespace Go.Proofs.Yteajlffchdbkjaa.Rv
open Go.RowKit Go.Maps Go.Shelf Go.Proofs.YteajlffchdbkjaaW.PrintWords Go.Proofs.YteajlffchdbkjaaW.PrintLast Go.Proofs.YteajlffchdbkjaaW.PrintMore
set_option linter.unusedVariables false
set_option linter.unusedSimpArgs false
attribute [local go_sem] Oper.semAt_some
theorem mayL_iff (l : LimV) : mayL l = true ↔ (0 ≤ l.1 ∧ l.1 ≤ 100) ∧ (0 ≤ l.2.1 ∧ l.2.1 ≤ 100) ∧ (0 ≤ l.2.2.1 ∧ l.2.2.1 ≤ 100) ∧ (1 ≤ l.2.2.2.1 ∧ l.2.2.2.1 ≤ 1099511627776 ∧ 1 ≤ l.2.2.2.2.1 ∧ l.2.2.2.2.1 ≤ 1099511627776) ∧ (0 ≤ l.2.2.2.2.2 ∧ l.2.2.2.2.2 ≤ 1073741824) := by
  unfold mayL mayT inW
  simp only [Bool.and_eq_true, decide_eq_true_eq]
theorem new_bad (W : World) (a b c d e f : Int) (h : mayL (a, b, c, d, e, f) = false) : Calls Try.prog 23 #[.agg #[.int .i64 a, .int .i64 b, .int .i64 c, .int .i64 d, .int .i64 e, .int .i64 f]] W fun en w' => en = .returned (.tuple #[.pointer none, .int .i64 1]) ∧ W.grownBy w' none := by
  obtain ⟨X, hX⟩ : ∃ X, W.alloc (.cells #[.int .i64 a, .int .i64 b, .int .i64 c, .int .i64 d, .int .i64 e, .int .i64 f] 23) = X := ⟨_, rfl⟩
  have hg : W.grownBy X none := by rw [← hX]; exact World.grownBy_alloc W _ none
  have hc := new_cellsN W 23 #[.int .i64 a, .int .i64 b, .int .i64 c, .int .i64 d, .int .i64 e, .int .i64 f]
  rw [hX] at hc
  have c0 := cell_cellsN hc 0 (by simp)
  have c1 := cell_cellsN hc 1 (by simp)
  have c2 := cell_cellsN hc 2 (by simp)
  have c3 := cell_cellsN hc 3 (by simp)
  have c4 := cell_cellsN hc 4 (by simp)
  have c5 := cell_cellsN hc 5 (by simp)
  simp only [List.getElem_toArray, List.getElem_cons_zero, List.getElem_cons_succ] at c0 c1 c2 c3 c4 c5
  have HG := Lib.hid hg
  have K := rvmay_calls X a b c d e f
  rw [h] at K
  have K := Lib.hid K
  clear hg hc h
  go_enter Try.func23, Try.ntmps23
  go_wp2_with (go_at_call 21; refine K.out.mono ?_; rintro en w2 ⟨rfl, hg2⟩)
  go_ret2
  exact ⟨rfl, World.grownBy.trans HG.out hg2⟩
theorem new_calls (W : World) (a b c d e f : Int) (h : mayL (a, b, c, d, e, f) = true) : Calls Try.prog 23 #[.agg #[.int .i64 a, .int .i64 b, .int .i64 c, .int .i64 d, .int .i64 e, .int .i64 f]] W fun en w' => ∃ g bm, en = .returned (.tuple #[.pointer (some ⟨g, 0, none⟩), .int .i64 0]) ∧ TabAt w' g bm 0 (a, b, c, d, e, f) [] 0 ∧ W.heap.size ≤ g ∧ W.heap.size ≤ bm ∧ W.grownBy w' none := by
  obtain ⟨X, hX⟩ : ∃ X, W.alloc (.cells #[.int .i64 a, .int .i64 b, .int .i64 c, .int .i64 d, .int .i64 e, .int .i64 f] 23) = X := ⟨_, rfl⟩
  have hg : W.grownBy X none := by rw [← hX]; exact World.grownBy_alloc W _ none
  have hc := new_cellsN W 23 #[.int .i64 a, .int .i64 b, .int .i64 c, .int .i64 d, .int .i64 e, .int .i64 f]
  rw [hX] at hc
  have hlt := (Array.getElem?_eq_some_iff.1 hc).1
  have HC := Lib.hid (fun (V : World) (hV : X.grownBy V none) => (hV.block W.heap.size hlt (by simp)).trans hc)
  have c0 := cell_cellsN hc 0 (by simp)
  have c1 := cell_cellsN hc 1 (by simp)
  have c2 := cell_cellsN hc 2 (by simp)
  have c3 := cell_cellsN hc 3 (by simp)
  have c4 := cell_cellsN hc 4 (by simp)
  have c5 := cell_cellsN hc 5 (by simp)
  simp only [List.getElem_toArray, List.getElem_cons_zero, List.getElem_cons_succ] at c0 c1 c2 c3 c4 c5
  have HG := Lib.hid hg
  have K := rvmay_calls X a b c d e f
  rw [h] at K
  have K := Lib.hid K
  clear hg hc h hlt
  go_enter Try.func23, Try.ntmps23
  go_upto_region 3 with (go_at_call 21; refine K.out.mono ?_; rintro en w2 ⟨rfl, hg2⟩)
  clear c0 c1 c2 c3 c4 c5 hX
  have hc := HC.out w2 hg2
  have c0 := cell_cellsN hc 0 (by simp)
  have c1 := cell_cellsN hc 1 (by simp)
  have c2 := cell_cellsN hc 2 (by simp)
  have c3 := cell_cellsN hc 3 (by simp)
  have c4 := cell_cellsN hc 4 (by simp)
  have c5 := cell_cellsN hc 5 (by simp)
  simp only [List.getElem_toArray, List.getElem_cons_zero, List.getElem_cons_succ] at c0 c1 c2 c3 c4 c5
  have hmm := @run_makeMap Try.prog
  go_wp2
  go_ret2
  have hs := HG.out.size
  have hs2 := hg2.size
  have hown := (World.ownsMap_made (H := Unit) w2 Try.prog 3 heldR).alloc (.cells (tabC (a, b, c, d, e, f) w2.heap.size 0) 101)
  refine ⟨_, w2.heap.size, rfl, ⟨by have h := new_cellsN (w2.alloc (.map #[] 0)) 101 (tabC (a, b, c, d, e, f) w2.heap.size 0); rw [World.size_alloc] at h; exact h, hown⟩, ?_, by omega, ?_⟩
  · omega
  · exact World.grownBy.trans (World.grownBy.trans HG.out hg2) (World.grownBy.trans (World.grownBy_alloc w2 _ none) (World.grownBy_alloc _ _ none))
/-! ### awake -/
theorem ris_nil : Ris [] := List.Pairwise.nil
end Go.Proofs.Yteajlffchdbkjaa.Rv
namespace Go.Proofs.Yteajlffchdbkjaa.Rv
open Go.RowKit Go.Maps Go.Shelf Go.Sort Go.Proofs.YteajlffchdbkjaaW.PrintWords Go.Proofs.YteajlffchdbkjaaW.PrintLast Go.Proofs.YteajlffchdbkjaaW.PrintMore
set_option linter.unusedVariables false
set_option linter.unusedSimpArgs false
attribute [local go_sem] Oper.semAt_some
theorem asc_unique : ∀ {a b : List Int}, a.Perm b → a.Pairwise (fun x y => x ≤ y) → b.Pairwise (fun x y => x ≤ y) → a = b
  | [], b, h, _, _ => (List.nil_perm.1 h).symm ▸ rfl
  | x :: a, [], h, _, _ => absurd h.length_eq (by simp)
  | x :: a, y :: b, h, ha, hb => by
    obtain ⟨a1, a2⟩ := List.pairwise_cons.1 ha
    obtain ⟨b1, b2⟩ := List.pairwise_cons.1 hb
    have hx : x ∈ y :: b := h.mem_iff.1 (by simp)
    have hy : y ∈ x :: a := h.mem_iff.2 (by simp)
    have e : x = y := by
      rcases List.mem_cons.1 hx with e | hx
      · exact e
      · rcases List.mem_cons.1 hy with e | hy
        · exact e.symm
        · have := a1 y hy; have := b1 x hx; omega
    subst e
    rw [asc_unique (List.Perm.cons_inv h) a2 b2]
theorem keys_enc (L : List HeldP) : intKeys (encL L) = L.map (·.1) := by
  unfold intKeys encL
  dsimp only
  rw [List.map_map]
  rfl
theorem sorted_keys {L : List HeldP} (hr : Ris L) {ss : List Int} (h : ss.Perm (intKeys (encL L))) : ss.mergeSort (fun x y => decide (x ≤ y)) = L.map (·.1) := by
  rw [keys_enc] at h
  refine asc_unique ((List.mergeSort_perm ss _).trans h) ?_ ?_
  · have := List.pairwise_mergeSort (le := fun x y : Int => decide (x ≤ y)) (fun a b c h1 h2 => by simp at h1 h2 ⊢; omega) (fun a b => by simp; omega) ss
    exact this.imp (fun h => by simpa using h)
  · exact List.pairwise_map.2 (hr.imp (fun h => by omega))
theorem sortsA (m : Nat) : AnyZI.SortsIn Try.prog Try.sortedA_ren Fence.wide m :=
  ⟨fun blk off cap ss W hH hblk hsz => callsIn_wide.2 (AnyM.slices_Sort_int Try.sortA blk off cap ss W hH hblk hsz),
   fun p cap W => callsIn_wide.2 (AnyM.slices_Sort_int_none Try.sortA p cap W)⟩
set_option maxRecDepth 100000 in
set_option maxHeartbeats 4000000 in
theorem sorted_calls (w : World) (b n : Nat) (L : List HeldP) (hown : w.ownsMap Try.prog 3 heldR b n (encL L)) (hr : Ris L) (hl : L.length ≤ 1000000) :
    Calls Try.prog 61 #[.func (.func 80) #[] #[.pointer (some ⟨w.heap.size, 0, none⟩)]] (w.alloc (.cells #[.map (some b)] 99)) fun e w' => ∃ (A : Option Addr) (m c : Nat), e = .returned (.slice A m c) ∧ m = L.length ∧ w'.ownsRow w.heap.size 3 1 (.slice A m c) L.length ((L.map (·.1)).map encZ) ∧ Below w.heap.size w w' := by
  refine (callsIn_wide (n := 5)).1 ?_
  have hbl := hown.lt
  have hsz : Maps.size (encL L) = L.length := enc_size L
  have hseq : SeqGives Fence.wide 2 Try.prog 80 #[.pointer (some ⟨w.heap.size, 0, none⟩)] encZ (fun ss => ss.Perm (intKeys (encL L))) (Maps.size (encL L)) (w.alloc (.cells #[.map (some b)] 99)) :=
    AnyZI.keys_gives (ρ := Try.keysA_ren) { Try.keysA with } Fence.wide _ trivial rfl (by omega) w.heap.size b n (encL L) _ (by simp) (by simp) (by
      obtain ⟨es, clock, hb, Ft, hs, hD⟩ := hown
      exact ⟨es, clock, (Below.heap_alloc _ _ b hbl).trans hb, Ft, hs, hD⟩)
  have cS := AnyZI.sorted_in Try.sortedA Fence.wide 5 trivial trivial trivial trivial rfl (by omega) (sortsA _) (enters_of Try.func79 (by kernel_rfl) rfl) 80 #[.pointer (some ⟨w.heap.size, 0, none⟩)] trivial (enters_of Try.func80 (by kernel_rfl) rfl) _ _ (by rw [hsz]; unfold maxLen; omega) (by rw [hsz]; omega) _ hseq
  change CallsIn _ _ Try.prog 61 _ _ _ at cS
  refine cS.mono ?_
  rintro e w' ⟨v, ss, rfl, hS, hrow, hnil, hb⟩
  have hk := sorted_keys hr hS
  have hlen : ss.length = L.length := by rw [hS.length_eq, keys_enc, List.length_map]
  rw [hk, hlen] at hrow
  obtain ⟨A, m, c, hv, hm⟩ : ∃ (A : Option Addr) (m c : Nat), v = .slice A m c ∧ m = L.length := by
    rcases hrow.2 with ⟨h1, h2⟩ | ⟨gg, cap, cur, h1, _⟩
    · exact ⟨none, 0, 0, h1, h2.symm⟩
    · exact ⟨_, _, _, h1, rfl⟩
  subst hv
  exact ⟨A, m, c, rfl, hm, ownsRow_base_a hrow (by simp), ((Below.refl _ w).alloc (Nat.le_refl _) _).trans (hb.mono (by simp))⟩
theorem keysf_calls (w : World) (mb : Option Nat) : Calls Try.prog 62 #[.map mb] w fun e w' => e = .returned (.func (.func 80) #[] #[.pointer (some ⟨w.heap.size, 0, none⟩)]) ∧ w' = w.alloc (.cells #[.map mb] 99) :=
  (callsIn_wide (n := 5)).1 (AnyZI.keys_in Try.keysA Fence.wide 5 trivial rfl mb w)
theorem clone_calls (w : World) (b n : Nat) (D : DataW Unit) (hown : w.ownsMap Try.prog 3 heldR b n D) : Calls Try.prog 63 #[.map (some b)] w fun e w' => e = .returned (.map (some w.heap.size)) ∧ w'.ownsMap Try.prog 3 heldR w.heap.size n D ∧ w'.ownsMap Try.prog 3 heldR b n D ∧ Below w.heap.size w w' :=
  AnyW.maps_Clone_owns Try.cloneM 3 heldR b n D w hown
end Go.Proofs.Yteajlffchdbkjaa.Rv
namespace Go.Proofs.Yteajlffchdbkjaa.Rv
open Go.RowKit Go.Maps Go.Shelf Go.Sort Go.Proofs.YteajlffchdbkjaaW.PrintWords Go.Proofs.YteajlffchdbkjaaW.PrintLast Go.Proofs.YteajlffchdbkjaaW.PrintMore
set_option linter.unusedVariables false
set_option linter.unusedSimpArgs false
attribute [local go_sem] Oper.semAt_some
/-- What an iterator over all holds: its boxes p1 (the peers' row) and p2 (the clone b2). -/
def AllAt (base : Nat) (V : World) (p1 p2 b2 n : Nat) (L : List HeldP) : Prop :=
  ∃ A m c, V.cell? ⟨p1, 0, none⟩ = some (.slice A m c) ∧ m = L.length ∧ V.ownsRow base 3 1 (.slice A m c) L.length ((L.map (·.1)).map encZ) ∧ V.cell? ⟨p2, 0, none⟩ = some (.map (some b2)) ∧ V.ownsMap Try.prog 3 heldR b2 n (encL L) ∧ base ≤ p1 ∧ base ≤ p2 ∧ base ≤ b2
theorem tab_kept {W X : World} {g b n : Nat} {l : LimV} {L : List HeldP} {now : Int} (h : TabAt W g b n l L now) (hb : Below W.heap.size W X) : TabAt X g b n l L now :=
  h.step ⟨hb.os, hb.tape, hb.output, hb.size, fun i hi _ => hb.block i hi⟩
theorem Touch.ofBelow {g b : Nat} {W X : World} (hb : Below W.heap.size W X) : Touch g b W X := ⟨hb.os, hb.tape, hb.output, hb.size, fun i hi _ _ => hb.block i hi⟩
set_option maxRecDepth 100000 in
set_option maxHeartbeats 4000000 in
theorem all_calls (W : World) (g b n : Nat) (l : LimV) (L : List HeldP) (now t : Int) (h : TabAt W g b n l L now) (hr : Ris L) (hl : L.length ≤ 1000000) :
    Calls Try.prog 36 #[.pointer (some ⟨g, 0, none⟩), .int .i64 t] W fun e w' => ∃ p1 p2 b2, e = .returned (.func (.func 64) #[] #[.pointer (some ⟨p1, 0, none⟩), .pointer (some ⟨p2, 0, none⟩)]) ∧ AllAt W.heap.size w' p1 p2 b2 n (overL L (onT now t)) ∧ TabAt w' g b n l (overL L (onT now t)) (onT now t) ∧ Touch g b W w' := by
  obtain ⟨T, hT⟩ : ∃ T, onT now t = T := ⟨_, rfl⟩
  have K := on_calls W g b n l L now t h
  rw [hT] at K ⊢
  obtain ⟨L', hL'⟩ : ∃ L', overL L T = L' := ⟨_, rfl⟩
  have hrs : Ris L' := by rw [← hL']; exact ris_filter hr _
  have hln : L'.length ≤ 1000000 := by rw [← hL']; have := List.length_filter_le (fun x : HeldP => !decide (x.2.2 ≤ T)) L; unfold overL; omega
  rw [hL'] at K ⊢
  have K := Lib.hid K
  have HRS := Lib.hid hrs
  have HLN := Lib.hid hln
  clear h hT hL' hr hl hrs hln
  go_enter Try.func36, Try.ntmps36
  go_upto_region 2 with (go_at_call 43; refine K.out.mono ?_; rintro e w1 ⟨rfl, h1, ht1⟩)
  obtain ⟨c0, c1, c3, c6, c7⟩ := tab_cells h1.1
  have KK := Lib.hid (keysf_calls w1 (some b))
  have KS := Lib.hid (sorted_calls w1 b n L' h1.2 HRS.out HLN.out)
  go_upto_region 3 with (first
    | (go_at_call 62; refine KK.out.mono ?_; rintro e w2 ⟨rfl, rfl⟩)
    | (go_at_call 61; refine KS.out.mono ?_; rintro e w3 ⟨A, m, c, rfl, hm, hrow, hb3⟩; have HM := Lib.hid hm; clear hm))
  obtain ⟨X, hX⟩ : ∃ X, w3.alloc (.cells #[.slice A m c] 54) = X := ⟨_, rfl⟩
  have hbX : Below w3.heap.size w3 X := by rw [← hX]; exact (Below.refl _ w3).alloc (Nat.le_refl _) _
  have hx1 : X.cell? ⟨w3.heap.size, 0, none⟩ = some (.slice A m c) := by rw [← hX]; exact cell_cellsN (new_cellsN w3 _ _) 0 (by simp)
  have hb1X : Below w1.heap.size w1 X := hb3.trans (hbX.mono hb3.size)
  have hT2 := tab_kept h1 hb1X
  have hrow2 := hrow.kept (row := none) (w' := X) ⟨hbX.os, hbX.tape, hbX.output, hbX.size, fun i hi _ => hbX.block i hi⟩ (Classical.em _)
  have hlt3 : w3.heap.size < X.heap.size := by rw [← hX]; simp
  rw [hX]
  clear hX c0 c1 c3 c6 c7
  obtain ⟨c0, c1, c3, c6, c7⟩ := tab_cells hT2.1
  have KC := Lib.hid (clone_calls X b n (encL L') hT2.2)
  have HX1 := Lib.hid hx1
  have HR2 := Lib.hid hrow2
  have HB1X := Lib.hid hb1X
  have HT1 := Lib.hid ht1
  have HTT := Lib.hid hT2
  have HS3 := Lib.hid (show w1.heap.size ≤ w3.heap.size from hb3.size)
  have HL3 := Lib.hid hlt3
  have HW1 := Lib.hid ht1.2.2.2.1
  clear hx1 hrow hrow2 hbX hb1X ht1 hT2 h1 hb3 hlt3
  go_upto_region 4 with (go_at_call 63; refine KC.out.mono ?_; rintro e w5 ⟨rfl, h5, h6, hb5⟩)
  obtain ⟨Y, hY⟩ : ∃ Y, w5.alloc (.cells #[.map (some X.heap.size)] 99) = Y := ⟨_, rfl⟩
  have hbY : Below w5.heap.size w5 Y := by rw [← hY]; exact (Below.refl _ w5).alloc (Nat.le_refl _) _
  have hbXY : Below X.heap.size X Y := hb5.trans (hbY.mono hb5.size)
  have hy1 : Y.cell? ⟨w5.heap.size, 0, none⟩ = some (.map (some X.heap.size)) := by rw [← hY]; exact cell_cellsN (new_cellsN w5 _ _) 0 (by simp)
  have hy2 : Y.ownsMap Try.prog 3 heldR X.heap.size n (encL L') := by rw [← hY]; exact h5.alloc _
  rw [hY]
  clear hY c0 c1 c3 c6 c7
  go_wp2
  go_ret
  have hs5 := hb5.size
  have hW1 := HW1.out
  have hS3 := HS3.out
  have hL3 := HL3.out
  refine ⟨_, _, _, rfl, ⟨A, m, c, (hbXY.cell hL3).trans HX1.out, HM.out, ?_, hy1, hy2, by omega, by omega, by omega⟩, tab_kept HTT.out hbXY, HT1.out.trans (Touch.ofBelow (HB1X.out.trans (hbXY.mono HB1X.out.size)))⟩
  exact ownsRow_base_a (HR2.out.kept (row := none) (w' := Y) ⟨hbXY.os, hbXY.tape, hbXY.output, hbXY.size, fun i hi _ => hbXY.block i hi⟩ (Classical.em _)) hW1
end Go.Proofs.Yteajlffchdbkjaa.Rv
namespace Go.Proofs.Yteajlffchdbkjaa.Rv
open Go.RowKit Go.Maps Go.Shelf Go.Sort Go.Proofs.YteajlffchdbkjaaW.PrintWords Go.Proofs.YteajlffchdbkjaaW.PrintLast Go.Proofs.YteajlffchdbkjaaW.PrintMore
set_option linter.unusedVariables false
set_option linter.unusedSimpArgs false
attribute [local go_sem] Oper.semAt_some
def KeepS (S : Nat → Prop) (W W' : World) : Prop := W.heap.size ≤ W'.heap.size ∧ ∀ b, S b → W'.heap[b]? = W.heap[b]?
theorem KeepS.refl (S : Nat → Prop) (W : World) : KeepS S W W := ⟨Nat.le_refl _, fun _ _ => rfl⟩
theorem KeepS.trans {S : Nat → Prop} {A B C : World} (h : KeepS S A B) (k : KeepS S B C) : KeepS S A C := ⟨Nat.le_trans h.1 k.1, fun b h1 => (k.2 b h1).trans (h.2 b h1)⟩
theorem KeepS.cell {S : Nat → Prop} {W W' : World} (h : KeepS S W W') {p : Addr} (h1 : S p.block) : W'.cell? p = W.cell? p := World.cell?_of_block (w := W) (h.2 p.block h1)
theorem KeepS.setCell {S : Nat → Prop} {W : World} {p : Addr} (h : ¬ S p.block) (v : Value) : KeepS S W (W.setCell p v) := ⟨by simp [World.setCell], fun b h1 => Below.heap_setCell _ _ _ _ (fun e => h (e ▸ h1))⟩
theorem KeepS.below {S : Nat → Prop} {B : Nat} {W W' : World} (h : Below B W W') (hS : ∀ b, S b → b < B) : KeepS S W W' := ⟨h.size, fun b h2 => h.block b (hS b h2)⟩
theorem KeepS.put {S : Nat → Prop} (W : World) (l : Nat) (o o' : Obj) (hl : ¬ S l) (h : W.heap[l]? = some o) : KeepS S W (W.putObj l o') :=
  ⟨(Below.refl 0 W).grown (grownBy_putObj' W l o') (Nat.zero_le _) (fun _ _ => Nat.zero_le _) |>.size, fun b h2 => by
    by_cases hlt : b < W.heap.size
    · exact (grownBy_putObj' W l o').block b hlt (fun e => by cases e; exact hl h2)
    · have hl' := (Array.getElem?_eq_some_iff.1 h).1
      have hs : (W.putObj l o').heap.size = W.heap.size := by simp [World.putObj]
      rw [Array.getElem?_eq_none (by omega), Array.getElem?_eq_none (by omega)]⟩
theorem KeepS.grown {S : Nat → Prop} {W0 X Y : World} {row : Option Nat} (h : KeepS S W0 X) (hS : ∀ b, S b → b < W0.heap.size) (hg : X.grownBy Y row) (hr : ∀ r, row = some r → ¬ S r) : KeepS S W0 Y :=
  ⟨Nat.le_trans h.1 hg.size, fun b hb => (hg.block b (Nat.lt_of_lt_of_le (hS b hb) h.1) (fun e => hr b e.symm hb)).trans (h.2 b hb)⟩
theorem KeepS.boxed {S : Nat → Prop} {W W' : World} {B : Nat} {t : TypeId} {v : Value} (h : KeepS S W W') (hB : S B) (hb : Boxed W B t v) : Boxed W' B t v := (h.2 B hB).trans hb
theorem get_mem {L : List HeldP} (hr : Ris L) {q : HeldP} (h : q ∈ L) : getL L q.1 = q := by
  unfold getL
  have hf : L.find? (fun x => decide (x.1 = q.1)) = some q := by
    induction L with
    | nil => cases h
    | cons x r ih =>
      obtain ⟨h1, h2⟩ := List.pairwise_cons.1 hr
      rcases List.mem_cons.1 h with rfl | h
      · simp
      · have := h1 q h
        rw [List.find?_cons, decide_eq_false (by omega)]
        exact ih h2 h
  rw [hf]
  rfl
abbrev encsH (q : HeldP) : Array Value := #[.agg (heldC q)]
set_option maxRecDepth 100000 in
set_option maxHeartbeats 4000000 in
theorem all_stops (n : Nat) (hn : 1 ≤ n) (S : Nat → Prop) (p1 p2 b2 nn : Nat) (A : Option Addr) (c : Nat) (L : List HeldP) (w : World) (h1 : S p1) (h2 : S p2) (h3 : S b2) (hN : ∀ b, S b → b < w.heap.size)
    (c1 : w.cell? ⟨p1, 0, none⟩ = some (.slice A L.length c)) (c2 : w.cell? ⟨p2, 0, none⟩ = some (.map (some b2))) (hown : w.ownsMap Try.prog 3 heldR b2 nn (encL L)) (hr : Ris L) (hl : L.length ≤ 1000000) (hI : ∀ q ∈ L, I64 q.1)
    (hf : ∀ V, KeepS S w V → ∀ i (h : i < L.length), ∃ ad, A = some ad ∧ V.cell? (ad.add i) = some (.int .i64 L[i].1)) :
    SeqStopsK Fence.wide n Try.prog 64 #[.pointer (some ⟨p1, 0, none⟩), .pointer (some ⟨p2, 0, none⟩)] encsH (KeepS S) (fun xs => xs = L) (fun xs => ∃ r, xs ++ r = L) 2000000 w := fun lp J Jx W hW hJ hJx hY h0 => by
  have hkw : KeepS S w W := KeepS.below hW hN
  have hNW : ∀ b, S b → b < W.heap.size := fun b hb => Nat.lt_of_lt_of_le (hN b hb) hW.size
  have Hf := Lib.hid hf
  have Hkw := Lib.hid hkw
  have Hc1 := Lib.hid c1
  have Hc2 := Lib.hid c2
  have Hown := Lib.hid hown
  have Hr := Lib.hid hr
  have HI := Lib.hid hI
  obtain ⟨m, hm⟩ : ∃ m, L.length = m := ⟨_, rfl⟩
  have HM := Lib.hid hm
  have Hl := Lib.hid hl
  rw [hm] at c1
  have e1 := (hkw.cell (p := ⟨p1, 0, none⟩) h1).trans c1
  clear hf hkw c1 c2 hW hJx hown hr hI hm hl
  refine callsIn_of_wp Try.func64 rfl trivial ?_ rfl
  simp only [Try.ntmps64, List.size_toArray, List.length_cons, List.length_nil, Nat.reduceAdd, Nat.reduceSub, Array.replicate_succ, Array.replicate_zero, List.push_toArray, List.append_toArray, List.nil_append, List.cons_append]
  gi_wp2
  clear e1
  gi_loopw [8] (fun v8 wr => ∃ i : Nat, v8 = .int .i64 i ∧ i ≤ m ∧ J (L.take i) wr ∧ KeepS S W wr) (fun v8 _ => m - (intOf v8).toNat)
  case atStart => exact ⟨0, rfl, Nat.zero_le _, by rw [List.take_zero]; exact h0, KeepS.refl _ _⟩
  case round =>
    obtain ⟨i, rfl, hi, hJs, hkp⟩ := hrel
    have hml := Hl.out
    rw [HM.out] at hml
    by_cases hlt : i < m
    · have hb1 : decide ((i : Int) < (m : Int)) = true := decide_eq_true (by omega)
      have hiL : i < L.length := by rw [HM.out]; exact hlt
      have hkwr := Hkw.out.trans hkp
      obtain ⟨ad, hA, hx⟩ := Hf.out wr hkwr i hiL
      obtain ⟨q, hq⟩ : ∃ q, L[i] = q := ⟨_, rfl⟩
      have hmem : q ∈ L := by rw [← hq]; exact List.getElem_mem hiL
      rw [hq] at hx
      subst hA
      have e2 := (hkwr.cell (p := ⟨p2, 0, none⟩) h2).trans Hc2.out
      have hown' : wr.ownsMap Try.prog 3 heldR b2 nn (encL L) := by
        obtain ⟨es, clock, hb, Ft, hs, hD⟩ := Hown.out
        exact ⟨es, clock, (hkwr.2 b2 h3).trans hb, Ft, hs, hD⟩
      obtain ⟨v, ps, hrun, hv⟩ := hown'.lookup K3 Try.underlying99 (zeroH wr) (heldR_mk (0, 0, 0)) (key_of (HI.out q hmem))
      rw [enc_at, get_mem Hr.out hmem] at hv
      obtain ⟨q', rfl, hq'⟩ := heldR_inv hv
      have hq' := encD_inj (congrArg Prod.fst hq')
      subst hq'
      have htk : L.take (i + 1) = L.take i ++ [q] := by rw [List.take_add_one, List.getElem?_eq_getElem hiL, hq]; rfl
      clear hown' hv hmem
      obtain ⟨fn, tmps, assign, body, hy, hR⟩ := hY (L.take i) q wr hJs (by rw [List.length_take]; omega)
      dsimp only [encsH] at hy
      gi_wp2
      refine hR.mono ?_
      rintro r W3 (⟨rfl, hJ3, hk3⟩ | ⟨rfl, hJx3⟩)
      · gi_wp2
        go_roundw
        case rel => exact ⟨i + 1, rfl, by omega, by rw [htk]; exact hJ3, hkp.trans hk3⟩
        case measure => simp [intOf]; omega
      · gi_wp2
        refine bodyPost_ret (results_none rfl _ _ _) rfl ?_
        exact ⟨⟨_, rfl⟩, .inr ⟨L.take i ++ [q], ⟨L.drop (i + 1), by rw [← htk, List.take_append_drop]⟩, hJx3⟩⟩
    · have hb1 : decide ((i : Int) < (m : Int)) = false := decide_eq_false (by omega)
      gi_wp2
      refine bodyPost_end (results_none rfl _ _ _) rfl ?_
      exact ⟨⟨_, rfl⟩, .inl ⟨L, rfl, by rw [List.take_of_length_le (by rw [HM.out]; omega)] at hJs; exact hJs⟩⟩
end Go.Proofs.Yteajlffchdbkjaa.Rv
namespace Go.Proofs.Yteajlffchdbkjaa.Rv
open Go.RowKit Go.Maps Go.Shelf Go.Sort Go.Proofs.YteajlffchdbkjaaW.PrintWords Go.Proofs.YteajlffchdbkjaaW.PrintLast Go.Proofs.YteajlffchdbkjaaW.PrintMore
set_option linter.unusedVariables false
set_option linter.unusedSimpArgs false
attribute [local go_sem] Oper.semAt_some

/-- A range over a function that ends, or is broken off, goes on in one place. -/
theorem wpIn_join {F : Fence} {n : Nat} {P : Program} {c : Code} {Q : Exit → Act → World → Prop} {a : Act} {w : World} (id : Nat) (Cond : Nat → World → Prop)
    (h1 : c.wpIn F n P (fun e a' W => (e = .normal ∨ e = .exit id) ∧ ∃ D, a' = { a with defers := { target := .collected D, args := #[] } :: a.defers } ∧ Cond D W) a w)
    (h2 : ∀ D W, Cond D W → Q .normal { a with defers := { target := .collected D, args := #[] } :: a.defers } W) (h3 : ∀ a' W, Q .normal a' W → Q (.exit id) a' W) : c.wpIn F n P Q a w :=
  wpIn_mono h1 (by
    rintro e a' W ⟨he, D, rfl, hc⟩
    rcases he with rfl | rfl
    · exact h2 D W hc
    · exact h3 _ _ (h2 D W hc))
/-- What an iterator owes that tells T of each value: it hands on a list of S, and stops only behind it. -/
def Told {α : Type} (F : Fence) (n : Nat) (P : Program) (g : Nat) (lb : Array Value) (encs : α → Array Value) (Kp : World → World → Prop) (T : List α → α → World → Prop) (S : List α → Prop) (w : World) : Prop :=
  ∀ (l : Nat) (J : List α → World → Prop) (W : World), Below w.heap.size w W → AbidesFrom W.heap.size J →
    (∀ pre x W1, J pre W1 → T pre x W1 → YieldAt F (n - 1) P l (encs x) W1 fun e W' => e = .returned (.bool true) ∧ J (pre ++ [x]) W' ∧ Kp W1 W') →
    J [] W → CallsIn F n P g (#[.func (.yield l) #[] #[]] ++ lb) W fun e W' => (∃ v, e = .returned v) ∧ ∃ xs, S xs ∧ J xs W'
/-- The range over it, whose rounds all go on. -/
theorem range_told {α : Type} {F : Fence} {n : Nat} {P : Program} {g : Operand} {ps : Array Tmp} {assign body : Code} {Q : Exit → Act → World → Prop} {a : Act} {w : World}
    (hro : F.round = none) (h1 : 1 ≤ n) {gf : Nat} {lb : Array Value} (hg : a.eval g = .func (.func gf) #[] lb) (hFg : F.fn gf) (eg : ∀ args w, (callFunc gf args).run P w = .ok (.enter gf args) w)
    {encs : α → Array Value} {Kp : World → World → Prop} {T : List α → α → World → Prop} {S : List α → Prop} {w0 : World} (hseq : Told F (n - 1) P gf lb encs Kp T S w0)
    (hKt : ∀ {A B C : World}, Kp A B → Kp B C → Kp A C) (hKb : ∀ (W : World) (l : Nat) (o o' : Obj), w.heap.size ≤ l → W.heap[l]? = some o → o.isCells = false → o.isWalk = false → Kp W (W.putObj l o')) (hb0 : Below w0.heap.size w0 w) (hps : ∀ x, (encs x).size = ps.size)
    (hT : ∀ pre x (W : World) (l : Nat) (o o' : Obj), W.heap[l]? = some o → o.isCells = false → T pre x W → T pre x (W.putObj l o'))
    (I : List α → World → Prop) (hI : OwnFrom w.heap.size I) (h0 : I [] w) (a1 : α → Act)
    (hassign : ∀ (l : Nat) (x : α) (W : World) (K : Act → World → Prop), K (a1 x) W →
      assign.wpIn (F.inRound l) (n - 1 - 1) P (Exit.then K (fun _ _ _ => False)) { tmps := (ps.zip (encs x)).foldl (fun t (p, v) => t.setIfInBounds p v) a.tmps, defers := [] } W)
    (hbody : ∀ (l : Nat) (pre : List α) (x : α) (W : World), I pre W → T pre x W → body.wpIn (F.inRound l) (n - 1 - 1) P (fun e _ W' => e = .normal ∧ KeepsOthers W W' ∧ Kp W W' ∧ I (pre ++ [x]) W') (a1 x) W)
    (hdone : ∀ (D : Nat) (xs : List α) (W : World), w.heap.size ≤ D → S xs → I xs W → W.heap[D]? = some (.deferred (some [])) → Q .normal { a with defers := { target := .collected D, args := #[] } :: a.defers } W) :
    (Code.rangeFunc g ps assign body).wpIn F n P Q a w := by
  refine wpIn_rangeFunc (fun fn hfn => ?_)
  rw [hro]
  obtain ⟨rc, hrc⟩ : ∃ rc : LoopState → Loop, rc = fun st => { state := st, pending := none, fn := fn, tmps := a.tmps, params := ps, assign := assign, body := body, defers := w.heap.size } := ⟨_, rfl⟩
  obtain ⟨V, hV⟩ : ∃ V, (w.alloc (.deferred (some []))).alloc (.loop (rc .ready)) = V := ⟨_, rfl⟩
  have hbV : Below w.heap.size w V := by rw [← hV]; exact ((Below.refl _ w).alloc (Nat.le_refl _) _).alloc (by simp) _
  have hsV : V.heap.size = w.heap.size + 2 := by rw [← hV]; simp
  have hlV : V.heap[w.heap.size + 1]? = some (.loop (rc .ready)) := by
    rw [← hV]; have h := World.alloc_heap_new (w.alloc (.deferred (some []))) (.loop (rc .ready)); rwa [World.size_alloc] at h
  have hdV : V.heap[w.heap.size]? = some (.deferred (some [])) := by
    rw [← hV]; exact (Below.heap_alloc _ _ _ (by simp)).trans (World.alloc_heap_new w _)
  have hIV : I [] V := by rw [← hV]; exact hI.alloc _ (hI.alloc _ h0)
  refine ⟨w.heap.size + 1, [{ target := .collected w.heap.size, args := #[] }], V, { target := .fn (.func gf) lb, args := #[.func (.yield (w.heap.size + 1)) #[] #[]] }, V, gf, #[.func (.yield (w.heap.size + 1)) #[] #[]] ++ lb, V, ?_, ?_, ?_, ?_, fun _ => h1, ?_⟩
  · rw [← hV, hrc]; exact run_enterLoop_outer _ _ _ _ _
  · simp only [resolve, hg]
    simp [go_sem]
  · intro f' hf'
    simp [Target.leads] at hf'
    subst hf'
    exact hFg
  · simp [invoke, go_sem, eg]
  · refine (hseq (w.heap.size + 1) (fun pre W => I pre W ∧ W.heap[w.heap.size + 1]? = some (.loop (rc .ready)) ∧ W.heap[w.heap.size]? = some (.deferred (some []))) V (hb0.trans (hbV.mono hb0.size)) ?_ ?_ ⟨hIV, hlV, hdV⟩).mono ?_
    · intro s A B row hs hgr hr
      refine ⟨hI s A B row hs.1 hgr (fun r e => ?_), (grownBy_keeps hgr (fun r e => (hr r e).2) hs.2.1 rfl).trans hs.2.1, (grownBy_keeps hgr (fun r e => (hr r e).2) hs.2.2 rfl).trans hs.2.2⟩
      obtain ⟨h2, o, h3, h4⟩ := hr r e
      exact ⟨by omega, o, h3, Obj.not_cells_of_walk h4⟩
    · rintro pre x W ⟨hi, hl, hd⟩ ht
      have hlt : w.heap.size + 1 < W.heap.size := (Array.getElem?_eq_some_iff.1 hl).1
      have hy := run_yield (P := P) (args := encs x) hl (by rw [hrc]; exact hps x)
      rw [hrc] at hy
      obtain ⟨W2, hW2⟩ : ∃ W2, W.putObj (w.heap.size + 1) (.loop (rc .busy)) = W2 := ⟨_, rfl⟩
      have hl2 : W2.heap[w.heap.size + 1]? = some (.loop (rc .busy)) := by rw [← hW2]; exact World.putObj_heap_same hlt
      have hd2 : W2.heap[w.heap.size]? = some (.deferred (some [])) := by rw [← hW2]; exact (World.putObj_heap_other (by omega)).trans hd
      have hk2 : Kp W W2 := by rw [← hW2]; exact hKb _ _ _ _ (by omega) hl rfl rfl
      have hi2 : I pre W2 := by rw [← hW2]; exact hI.putObj _ hi (by omega) hl rfl
      have ht2 : T pre x W2 := by rw [← hW2]; exact hT pre x W _ _ _ hl rfl ht
      refine ⟨fn, _, assign, body, hy, roundIn_of_wpIn hfn (hassign _ x W _ ⟨W2, ?_, ?_⟩)⟩
      · have h := run_beginRound (P := P) hl (by rw [hrc])
        rw [← hW2]
        rw [hrc] at h ⊢
        exact h
      · refine wpIn_mono (hbody _ pre x W2 hi2 ht2) ?_
        rintro e a3 W3 ⟨rfl, hko, hk3, hi3⟩
        have hl3 := hko.same _ _ hl2 rfl
        have hd3 := hko.same _ _ hd2 rfl
        have hlt3 := (Array.getElem?_eq_some_iff.1 hl3).1
        have he := run_endRound (P := P) none hl3
        refine ⟨_, _, he, rfl, ⟨hI.putObj _ hi3 (by omega) hl3 rfl, ?_, (World.putObj_heap_other (by omega)).trans hd3⟩, hKt (hKt hk2 hk3) (hKb _ _ _ _ (by omega) hl3 rfl rfl)⟩
        rw [World.putObj_heap_same hlt3, hrc]
        rfl
    · rintro e W2 ⟨⟨v, rfl⟩, xs, hS, hi, hl, hd⟩
      have he := run_endLoop (P := P) hl (by rw [hrc]; simp)
      rw [show (rc .ready).pending = none by rw [hrc]] at he
      exact ⟨none, _, he, hdone _ xs _ (Nat.le_refl _) hS (hI.putObj _ hi (by omega) hl rfl) ((World.putObj_heap_other (by omega)).trans hd)⟩
/-- The range over it, whose rounds all go on; what is told is laid in a box of its own. -/
theorem range_told_box {α : Type} {F : Fence} {n : Nat} {P : Program} {g : Operand} {ps : Array Tmp} {assign body : Code} {Q : Exit → Act → World → Prop} {a : Act} {w : World}
    (hro : F.round = none) (h1 : 1 ≤ n) {gf : Nat} {lb : Array Value} (hg : a.eval g = .func (.func gf) #[] lb) (hFg : F.fn gf) (eg : ∀ args w, (callFunc gf args).run P w = .ok (.enter gf args) w)
    {encs : α → Array Value} {Kp : World → World → Prop} {T : List α → α → World → Prop} {S : List α → Prop} {w0 : World} (hseq : Told F (n - 1) P gf lb encs Kp T S w0)
    (hKt : ∀ {A B C : World}, Kp A B → Kp B C → Kp A C) (hKb : ∀ (W : World) (l : Nat) (o o' : Obj), w.heap.size ≤ l → W.heap[l]? = some o → o.isCells = false → o.isWalk = false → Kp W (W.putObj l o')) (hb0 : Below w0.heap.size w0 w) (hps : ∀ x, (encs x).size = ps.size)
    (hT : ∀ pre x (W : World) (l : Nat) (o o' : Obj), W.heap[l]? = some o → o.isCells = false → T pre x W → T pre x (W.putObj l o'))
    (o : α → Obj) (hKa : ∀ (W : World) (x : α), w.heap.size ≤ W.heap.size → Kp W (W.alloc (o x))) (hTa : ∀ pre x (W : World), T pre x W → T pre x (W.alloc (o x)))
    (I : List α → World → Prop) (hI : OwnFrom w.heap.size I) (h0 : I [] w) (a1 : α → Nat → Act)
    (hassign : ∀ (l : Nat) (x : α) (W : World) (B : Nat) (K : Act → World → Prop), W.heap.size = B → K (a1 x B) (W.alloc (o x)) →
      assign.wpIn (F.inRound l) (n - 1 - 1) P (Exit.then K (fun _ _ _ => False)) { tmps := (ps.zip (encs x)).foldl (fun t (p, v) => t.setIfInBounds p v) a.tmps, defers := [] } W)
    (hbody : ∀ (l : Nat) (pre : List α) (x : α) (B : Nat) (W : World), w.heap.size ≤ B → W.heap[B]? = some (o x) → I pre W → T pre x W → body.wpIn (F.inRound l) (n - 1 - 1) P (fun e _ W' => e = .normal ∧ KeepsFrom w.heap.size W W' ∧ Kp W W' ∧ I (pre ++ [x]) W') (a1 x B) W)
    (hdone : ∀ (D : Nat) (xs : List α) (W : World), w.heap.size ≤ D → S xs → I xs W → W.heap[D]? = some (.deferred (some [])) → Q .normal { a with defers := { target := .collected D, args := #[] } :: a.defers } W) :
    (Code.rangeFunc g ps assign body).wpIn F n P Q a w := by
  refine wpIn_rangeFunc (fun fn hfn => ?_)
  rw [hro]
  obtain ⟨rc, hrc⟩ : ∃ rc : LoopState → Loop, rc = fun st => { state := st, pending := none, fn := fn, tmps := a.tmps, params := ps, assign := assign, body := body, defers := w.heap.size } := ⟨_, rfl⟩
  obtain ⟨V, hV⟩ : ∃ V, (w.alloc (.deferred (some []))).alloc (.loop (rc .ready)) = V := ⟨_, rfl⟩
  have hbV : Below w.heap.size w V := by rw [← hV]; exact ((Below.refl _ w).alloc (Nat.le_refl _) _).alloc (by simp) _
  have hsV : V.heap.size = w.heap.size + 2 := by rw [← hV]; simp
  have hlV : V.heap[w.heap.size + 1]? = some (.loop (rc .ready)) := by
    rw [← hV]; have h := World.alloc_heap_new (w.alloc (.deferred (some []))) (.loop (rc .ready)); rwa [World.size_alloc] at h
  have hdV : V.heap[w.heap.size]? = some (.deferred (some [])) := by
    rw [← hV]; exact (Below.heap_alloc _ _ _ (by simp)).trans (World.alloc_heap_new w _)
  have hIV : I [] V := by rw [← hV]; exact hI.alloc _ (hI.alloc _ h0)
  refine ⟨w.heap.size + 1, [{ target := .collected w.heap.size, args := #[] }], V, { target := .fn (.func gf) lb, args := #[.func (.yield (w.heap.size + 1)) #[] #[]] }, V, gf, #[.func (.yield (w.heap.size + 1)) #[] #[]] ++ lb, V, ?_, ?_, ?_, ?_, fun _ => h1, ?_⟩
  · rw [← hV, hrc]; exact run_enterLoop_outer _ _ _ _ _
  · simp only [resolve, hg]
    simp [go_sem]
  · intro f' hf'
    simp [Target.leads] at hf'
    subst hf'
    exact hFg
  · simp [invoke, go_sem, eg]
  · refine (hseq (w.heap.size + 1) (fun pre W => I pre W ∧ W.heap[w.heap.size + 1]? = some (.loop (rc .ready)) ∧ W.heap[w.heap.size]? = some (.deferred (some []))) V (hb0.trans (hbV.mono hb0.size)) ?_ ?_ ⟨hIV, hlV, hdV⟩).mono ?_
    · intro s A B row hs hgr hr
      refine ⟨hI s A B row hs.1 hgr (fun r e => ?_), (grownBy_keeps hgr (fun r e => (hr r e).2) hs.2.1 rfl).trans hs.2.1, (grownBy_keeps hgr (fun r e => (hr r e).2) hs.2.2 rfl).trans hs.2.2⟩
      obtain ⟨h2, o, h3, h4⟩ := hr r e
      exact ⟨by omega, o, h3, Obj.not_cells_of_walk h4⟩
    · rintro pre x W ⟨hi, hl, hd⟩ ht
      have hlt : w.heap.size + 1 < W.heap.size := (Array.getElem?_eq_some_iff.1 hl).1
      have hy := run_yield (P := P) (args := encs x) hl (by rw [hrc]; exact hps x)
      rw [hrc] at hy
      obtain ⟨U, hU⟩ : ∃ U, W.alloc (o x) = U := ⟨_, rfl⟩
      have hlU : U.heap[w.heap.size + 1]? = some (.loop (rc .ready)) := by rw [← hU]; exact (Below.heap_alloc _ _ _ hlt).trans hl
      have hdU : U.heap[w.heap.size]? = some (.deferred (some [])) := by rw [← hU]; exact (Below.heap_alloc _ _ _ (by omega)).trans hd
      have hnU : U.heap[W.heap.size]? = some (o x) := by rw [← hU]; exact World.alloc_heap_new W (o x)
      have hsU : U.heap.size = W.heap.size + 1 := by rw [← hU]; simp
      have hiU : I pre U := by rw [← hU]; exact hI.alloc _ hi
      have htU : T pre x U := by rw [← hU]; exact hTa pre x W ht
      have hkU : Kp W U := by rw [← hU]; exact hKa W x (by omega)
      obtain ⟨W2, hW2⟩ : ∃ W2, U.putObj (w.heap.size + 1) (.loop (rc .busy)) = W2 := ⟨_, rfl⟩
      have hl2 : W2.heap[w.heap.size + 1]? = some (.loop (rc .busy)) := by rw [← hW2]; exact World.putObj_heap_same (by omega)
      have hd2 : W2.heap[w.heap.size]? = some (.deferred (some [])) := by rw [← hW2]; exact (World.putObj_heap_other (by omega)).trans hdU
      have hn2 : W2.heap[W.heap.size]? = some (o x) := by rw [← hW2]; exact (World.putObj_heap_other (by omega)).trans hnU
      have hk2 : Kp U W2 := by rw [← hW2]; exact hKb _ _ _ _ (by omega) hlU rfl rfl
      have hi2 : I pre W2 := by rw [← hW2]; exact hI.putObj _ hiU (by omega) hlU rfl
      have ht2 : T pre x W2 := by rw [← hW2]; exact hT pre x U _ _ _ hlU rfl htU
      refine ⟨fn, _, assign, body, hy, roundIn_of_wpIn hfn (hassign _ x W _ _ rfl ?_)⟩
      rw [hU]
      refine ⟨W2, ?_, ?_⟩
      · have h := run_beginRound (P := P) hlU (by rw [hrc])
        rw [← hW2]
        rw [hrc] at h ⊢
        exact h
      · refine wpIn_mono (hbody _ pre x _ W2 (by omega) hn2 hi2 ht2) ?_
        rintro e a3 W3 ⟨rfl, hko, hk3, hi3⟩
        have hl3 := hko.same _ _ (by omega) hl2 rfl
        have hd3 := hko.same _ _ (by omega) hd2 rfl
        have hlt3 := (Array.getElem?_eq_some_iff.1 hl3).1
        have he := run_endRound (P := P) none hl3
        refine ⟨_, _, he, rfl, ⟨hI.putObj _ hi3 (by omega) hl3 rfl, ?_, (World.putObj_heap_other (by omega)).trans hd3⟩, hKt hkU (hKt (hKt hk2 hk3) (hKb _ _ _ _ (by omega) hl3 rfl rfl))⟩
        rw [World.putObj_heap_same hlt3, hrc]
        rfl
    · rintro e W2 ⟨⟨v, rfl⟩, xs, hS, hi, hl, hd⟩
      have he := run_endLoop (P := P) hl (by rw [hrc]; simp)
      rw [show (rc .ready).pending = none by rw [hrc]] at he
      exact ⟨none, _, he, hdone _ xs _ (Nat.le_refl _) hS (hI.putObj _ hi (by omega) hl rfl) ((World.putObj_heap_other (by omega)).trans hd)⟩
set_option maxRecDepth 100000 in
set_option maxHeartbeats 4000000 in
theorem all_told (n : Nat) (hn : 1 ≤ n) (S : Nat → Prop) (p1 p2 b2 nn : Nat) (A : Option Addr) (c : Nat) (L : List HeldP) (w : World) (h1 : S p1) (h2 : S p2) (h3 : S b2) (hN : ∀ b, S b → b < w.heap.size)
    (c1 : w.cell? ⟨p1, 0, none⟩ = some (.slice A L.length c)) (c2 : w.cell? ⟨p2, 0, none⟩ = some (.map (some b2))) (hown : w.ownsMap Try.prog 3 heldR b2 nn (encL L)) (hr : Ris L) (hl : L.length ≤ 1000000) (hI : ∀ q ∈ L, I64 q.1)
    (hf : ∀ V, KeepS S w V → ∀ i (h : i < L.length), ∃ ad, A = some ad ∧ V.cell? (ad.add i) = some (.int .i64 L[i].1)) :
    Told Fence.wide n Try.prog 64 #[.pointer (some ⟨p1, 0, none⟩), .pointer (some ⟨p2, 0, none⟩)] encsH (KeepS S) (fun pre x _ => ∃ r, pre ++ x :: r = L) (fun xs => xs = L) w := fun lp J W hW hJ hY h0 => by
  have hkw : KeepS S w W := KeepS.below hW hN
  have hNW : ∀ b, S b → b < W.heap.size := fun b hb => Nat.lt_of_lt_of_le (hN b hb) hW.size
  have Hf := Lib.hid hf
  have Hkw := Lib.hid hkw
  have Hc1 := Lib.hid c1
  have Hc2 := Lib.hid c2
  have Hown := Lib.hid hown
  have Hr := Lib.hid hr
  have HI := Lib.hid hI
  obtain ⟨m, hm⟩ : ∃ m, L.length = m := ⟨_, rfl⟩
  have HM := Lib.hid hm
  have Hl := Lib.hid hl
  rw [hm] at c1
  have e1 := (hkw.cell (p := ⟨p1, 0, none⟩) h1).trans c1
  clear hf hkw c1 c2 hW hown hr hI hm hl
  refine callsIn_of_wp Try.func64 rfl trivial ?_ rfl
  simp only [Try.ntmps64, List.size_toArray, List.length_cons, List.length_nil, Nat.reduceAdd, Nat.reduceSub, Array.replicate_succ, Array.replicate_zero, List.push_toArray, List.append_toArray, List.nil_append, List.cons_append]
  gi_wp2
  clear e1
  gi_loopw [8] (fun v8 wr => ∃ i : Nat, v8 = .int .i64 i ∧ i ≤ m ∧ J (L.take i) wr ∧ KeepS S W wr) (fun v8 _ => m - (intOf v8).toNat)
  case atStart => exact ⟨0, rfl, Nat.zero_le _, by rw [List.take_zero]; exact h0, KeepS.refl _ _⟩
  case round =>
    obtain ⟨i, rfl, hi, hJs, hkp⟩ := hrel
    have hml := Hl.out
    rw [HM.out] at hml
    by_cases hlt : i < m
    · have hb1 : decide ((i : Int) < (m : Int)) = true := decide_eq_true (by omega)
      have hiL : i < L.length := by rw [HM.out]; exact hlt
      have hkwr := Hkw.out.trans hkp
      obtain ⟨ad, hA, hx⟩ := Hf.out wr hkwr i hiL
      obtain ⟨q, hq⟩ : ∃ q, L[i] = q := ⟨_, rfl⟩
      have hmem : q ∈ L := by rw [← hq]; exact List.getElem_mem hiL
      rw [hq] at hx
      subst hA
      have e2 := (hkwr.cell (p := ⟨p2, 0, none⟩) h2).trans Hc2.out
      have hown' : wr.ownsMap Try.prog 3 heldR b2 nn (encL L) := by
        obtain ⟨es, clock, hb, Ft, hs, hD⟩ := Hown.out
        exact ⟨es, clock, (hkwr.2 b2 h3).trans hb, Ft, hs, hD⟩
      obtain ⟨v, ps, hrun, hv⟩ := hown'.lookup K3 Try.underlying99 (zeroH wr) (heldR_mk (0, 0, 0)) (key_of (HI.out q hmem))
      rw [enc_at, get_mem Hr.out hmem] at hv
      obtain ⟨q', rfl, hq'⟩ := heldR_inv hv
      have hq' := encD_inj (congrArg Prod.fst hq')
      subst hq'
      have htk : L.take (i + 1) = L.take i ++ [q] := by rw [List.take_add_one, List.getElem?_eq_getElem hiL, hq]; rfl
      clear hown' hv hmem
      obtain ⟨fn, tmps, assign, body, hy, hR⟩ := hY (L.take i) q wr hJs ⟨L.drop (i + 1), by rw [← hq, List.getElem_cons_drop, List.take_append_drop]⟩
      dsimp only [encsH] at hy
      gi_wp2
      refine hR.mono ?_
      rintro r W3 ⟨rfl, hJ3, hk3⟩
      gi_wp2
      go_roundw
      case rel => exact ⟨i + 1, rfl, by omega, by rw [htk]; exact hJ3, hkp.trans hk3⟩
      case measure => simp [intOf]; omega
    · have hb1 : decide ((i : Int) < (m : Int)) = false := decide_eq_false (by omega)
      gi_wp2
      refine bodyPost_end (results_none rfl _ _ _) rfl ?_
      exact ⟨⟨_, rfl⟩, L, rfl, by rw [List.take_of_length_le (by rw [HM.out]; omega)] at hJs; exact hJs⟩
end Go.Proofs.Yteajlffchdbkjaa.Rv
