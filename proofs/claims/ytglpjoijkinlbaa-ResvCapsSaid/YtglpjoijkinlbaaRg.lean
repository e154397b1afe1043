/-
  resv: whether limits may be; a new table. Conditions: numbers are of their kinds.
-/
import Derived.Test.YtglpjoijkinlbaaRe
namespace Go.Proofs.Ytglpjoijkinlbaa.Rv
open Go.RowKit Go.Maps Go.Shelf Go.Proofs.YtglpjoijkinlbaaW.PrintWords Go.Proofs.YtglpjoijkinlbaaW.PrintLast Go.Proofs.YtglpjoijkinlbaaW.PrintMore
set_option linter.unusedVariables false
set_option linter.unusedSimpArgs false
attribute [local go_sem] Oper.semAt_some
def inW (x m : Int) : Bool := decide (0 ≤ x) && decide (x ≤ m)
set_option maxRecDepth 100000 in
theorem within_calls (W : World) (x m : Int) : Calls Try.prog 19 #[.int .i64 x, .int .i64 m] W fun e w' => e = .returned (.bool (inW x m)) ∧ w' = W := by
  unfold inW
  by_cases h1 : x ≥ 0
  · have b1 : decide (x ≥ 0) = true := decide_eq_true h1
    have b0 : decide (0 ≤ x) = true := decide_eq_true (by omega)
    rw [b0, Bool.true_and]
    clear b0
    go_enter Try.func19, Try.ntmps19
    go_wp2
    go_ret
    exact ⟨rfl, rfl⟩
  · have b1 : decide (x ≥ 0) = false := decide_eq_false h1
    have b0 : decide (0 ≤ x) = false := decide_eq_false (by omega)
    rw [b0, Bool.false_and]
    clear b0
    go_enter Try.func19, Try.ntmps19
    go_wp2
    go_ret
    exact ⟨rfl, rfl⟩
def mayT (l : Int × Int × Int × Int × Int × Int) : Bool := (decide (l.2.2.2.1 ≥ 1) && (decide (l.2.2.2.1 ≤ 1099511627776) && (decide (l.2.2.2.2.1 ≥ 1) && decide (l.2.2.2.2.1 ≤ 1099511627776))))
def mayL (l : Int × Int × Int × Int × Int × Int) : Bool := inW l.1 100 && (inW l.2.1 100 && (inW l.2.2.1 100 && (mayT l && inW l.2.2.2.2.2 1073741824)))
def limC (l : Int × Int × Int × Int × Int × Int) : Array Value := #[.int .i64 l.1, .int .i64 l.2.1, .int .i64 l.2.2.1, .int .i64 l.2.2.2.1, .int .i64 l.2.2.2.2.1, .int .i64 l.2.2.2.2.2]
set_option maxRecDepth 100000 in
set_option maxHeartbeats 4000000 in
theorem rvmay_calls (W : World) (a b c d e f : Int) : Calls Try.prog 11 #[.agg #[.int .i64 a, .int .i64 b, .int .i64 c, .int .i64 d, .int .i64 e, .int .i64 f]] W fun en w' => en = .returned (.bool (mayL (a, b, c, d, e, f))) ∧ W.grownBy w' none := by
  obtain ⟨X, hX⟩ : ∃ X, W.alloc (.cells #[.int .i64 a, .int .i64 b, .int .i64 c, .int .i64 d, .int .i64 e, .int .i64 f] 23) = X := ⟨_, rfl⟩
  have hg : W.grownBy X none := by rw [← hX]; exact World.grownBy_alloc W _ none
  have hc := new_cellsN W 23 #[.int .i64 a, .int .i64 b, .int .i64 c, .int .i64 d, .int .i64 e, .int .i64 f]
  rw [hX] at hc
  have c0 := cell_cellsN hc 0 (by simp)
  have c1 := cell_cellsN hc 1 (by simp)
  have c2 := cell_cellsN hc 2 (by simp)
  have c3 := cell_cellsN hc 3 (by simp)
  have c4 := cell_cellsN hc 4 (by simp)
  have c5 := cell_cellsN hc 5 (by simp)
  simp only [List.getElem_toArray, List.getElem_cons_zero, List.getElem_cons_succ] at c0 c1 c2 c3 c4 c5
  have HG := Lib.hid hg
  obtain ⟨q1, h1⟩ : ∃ q, inW a 100 = q := ⟨_, rfl⟩
  obtain ⟨q2, h2⟩ : ∃ q, inW b 100 = q := ⟨_, rfl⟩
  obtain ⟨q3, h3⟩ : ∃ q, inW c 100 = q := ⟨_, rfl⟩
  obtain ⟨q6, h6⟩ : ∃ q, inW f 1073741824 = q := ⟨_, rfl⟩
  obtain ⟨d1, e1⟩ : ∃ q, decide (d ≥ 1) = q := ⟨_, rfl⟩
  obtain ⟨d2, e2⟩ : ∃ q, decide (d ≤ 1099511627776) = q := ⟨_, rfl⟩
  obtain ⟨d3, e3⟩ : ∃ q, decide (e ≥ 1) = q := ⟨_, rfl⟩
  obtain ⟨d4, e4⟩ : ∃ q, decide (e ≤ 1099511627776) = q := ⟨_, rfl⟩
  have K1 := within_calls X a 100
  have K2 := within_calls X b 100
  have K3' := within_calls X c 100
  have K6 := within_calls X f 1073741824
  rw [h1] at K1
  rw [h2] at K2
  rw [h3] at K3'
  rw [h6] at K6
  have K1 := Lib.hid K1
  have K2 := Lib.hid K2
  have K3' := Lib.hid K3'
  have K6 := Lib.hid K6
  have HM := Lib.hid (show mayL (a, b, c, d, e, f) = (q1 && (q2 && (q3 && ((d1 && (d2 && (d3 && d4))) && q6)))) by unfold mayL mayT; rw [h1, h2, h3, h6, e1, e2, e3, e4])
  rw [HM.out]
  clear hg hc h1 h2 h3 h6 HM
  have fin : ∀ (z : Bool) (V : World), V = X → (z = (q1 && (q2 && (q3 && ((d1 && (d2 && (d3 && d4))) && q6))))) → Ending.returned (.bool z) = .returned (.bool (q1 && (q2 && (q3 && ((d1 && (d2 && (d3 && d4))) && q6))))) ∧ W.grownBy V none := by
    rintro z V rfl rfl
    exact ⟨rfl, HG.out⟩
  have FIN := Lib.hid fin
  clear fin
  go_enter Try.func11, Try.ntmps11
  cases d1 with
  | false =>
    cases q1 with
    | false =>
      go_wp2_with (first
        | (go_at_call 19; with_reducible refine K1.out.mono ?_; rintro e w2 ⟨rfl, rfl⟩)
        | (go_at_call 19; with_reducible refine K2.out.mono ?_; rintro e w2 ⟨rfl, rfl⟩)
        | (go_at_call 19; with_reducible refine K3'.out.mono ?_; rintro e w2 ⟨rfl, rfl⟩)
        | (go_at_call 19; with_reducible refine K6.out.mono ?_; rintro e w2 ⟨rfl, rfl⟩))
      go_ret
      exact FIN.out _ _ rfl (by simp)
    | true =>
      cases q2 with
      | false =>
        go_wp2_with (first
          | (go_at_call 19; with_reducible refine K1.out.mono ?_; rintro e w2 ⟨rfl, rfl⟩)
          | (go_at_call 19; with_reducible refine K2.out.mono ?_; rintro e w2 ⟨rfl, rfl⟩)
          | (go_at_call 19; with_reducible refine K3'.out.mono ?_; rintro e w2 ⟨rfl, rfl⟩)
          | (go_at_call 19; with_reducible refine K6.out.mono ?_; rintro e w2 ⟨rfl, rfl⟩))
        go_ret
        exact FIN.out _ _ rfl (by simp)
      | true =>
        cases q3 with
        | false =>
          go_wp2_with (first
            | (go_at_call 19; with_reducible refine K1.out.mono ?_; rintro e w2 ⟨rfl, rfl⟩)
            | (go_at_call 19; with_reducible refine K2.out.mono ?_; rintro e w2 ⟨rfl, rfl⟩)
            | (go_at_call 19; with_reducible refine K3'.out.mono ?_; rintro e w2 ⟨rfl, rfl⟩)
            | (go_at_call 19; with_reducible refine K6.out.mono ?_; rintro e w2 ⟨rfl, rfl⟩))
          go_ret
          exact FIN.out _ _ rfl (by simp)
        | true =>
          go_wp2_with (first
            | (go_at_call 19; with_reducible refine K1.out.mono ?_; rintro e w2 ⟨rfl, rfl⟩)
            | (go_at_call 19; with_reducible refine K2.out.mono ?_; rintro e w2 ⟨rfl, rfl⟩)
            | (go_at_call 19; with_reducible refine K3'.out.mono ?_; rintro e w2 ⟨rfl, rfl⟩)
            | (go_at_call 19; with_reducible refine K6.out.mono ?_; rintro e w2 ⟨rfl, rfl⟩))
          go_ret
          exact FIN.out _ _ rfl (by simp)
  | true =>
    cases d2 with
    | false =>
      cases q1 with
      | false =>
        go_wp2_with (first
          | (go_at_call 19; with_reducible refine K1.out.mono ?_; rintro e w2 ⟨rfl, rfl⟩)
          | (go_at_call 19; with_reducible refine K2.out.mono ?_; rintro e w2 ⟨rfl, rfl⟩)
          | (go_at_call 19; with_reducible refine K3'.out.mono ?_; rintro e w2 ⟨rfl, rfl⟩)
          | (go_at_call 19; with_reducible refine K6.out.mono ?_; rintro e w2 ⟨rfl, rfl⟩))
        go_ret
        exact FIN.out _ _ rfl (by simp)
      | true =>
        cases q2 with
        | false =>
          go_wp2_with (first
            | (go_at_call 19; with_reducible refine K1.out.mono ?_; rintro e w2 ⟨rfl, rfl⟩)
            | (go_at_call 19; with_reducible refine K2.out.mono ?_; rintro e w2 ⟨rfl, rfl⟩)
            | (go_at_call 19; with_reducible refine K3'.out.mono ?_; rintro e w2 ⟨rfl, rfl⟩)
            | (go_at_call 19; with_reducible refine K6.out.mono ?_; rintro e w2 ⟨rfl, rfl⟩))
          go_ret
          exact FIN.out _ _ rfl (by simp)
        | true =>
          cases q3 with
          | false =>
            go_wp2_with (first
              | (go_at_call 19; with_reducible refine K1.out.mono ?_; rintro e w2 ⟨rfl, rfl⟩)
              | (go_at_call 19; with_reducible refine K2.out.mono ?_; rintro e w2 ⟨rfl, rfl⟩)
              | (go_at_call 19; with_reducible refine K3'.out.mono ?_; rintro e w2 ⟨rfl, rfl⟩)
              | (go_at_call 19; with_reducible refine K6.out.mono ?_; rintro e w2 ⟨rfl, rfl⟩))
            go_ret
            exact FIN.out _ _ rfl (by simp)
          | true =>
            go_wp2_with (first
              | (go_at_call 19; with_reducible refine K1.out.mono ?_; rintro e w2 ⟨rfl, rfl⟩)
              | (go_at_call 19; with_reducible refine K2.out.mono ?_; rintro e w2 ⟨rfl, rfl⟩)
              | (go_at_call 19; with_reducible refine K3'.out.mono ?_; rintro e w2 ⟨rfl, rfl⟩)
              | (go_at_call 19; with_reducible refine K6.out.mono ?_; rintro e w2 ⟨rfl, rfl⟩))
            go_ret
            exact FIN.out _ _ rfl (by simp)
    | true =>
      cases d3 with
      | false =>
        cases q1 with
        | false =>
          go_wp2_with (first
            | (go_at_call 19; with_reducible refine K1.out.mono ?_; rintro e w2 ⟨rfl, rfl⟩)
            | (go_at_call 19; with_reducible refine K2.out.mono ?_; rintro e w2 ⟨rfl, rfl⟩)
            | (go_at_call 19; with_reducible refine K3'.out.mono ?_; rintro e w2 ⟨rfl, rfl⟩)
            | (go_at_call 19; with_reducible refine K6.out.mono ?_; rintro e w2 ⟨rfl, rfl⟩))
          go_ret
          exact FIN.out _ _ rfl (by simp)
        | true =>
          cases q2 with
          | false =>
            go_wp2_with (first
              | (go_at_call 19; with_reducible refine K1.out.mono ?_; rintro e w2 ⟨rfl, rfl⟩)
              | (go_at_call 19; with_reducible refine K2.out.mono ?_; rintro e w2 ⟨rfl, rfl⟩)
              | (go_at_call 19; with_reducible refine K3'.out.mono ?_; rintro e w2 ⟨rfl, rfl⟩)
              | (go_at_call 19; with_reducible refine K6.out.mono ?_; rintro e w2 ⟨rfl, rfl⟩))
            go_ret
            exact FIN.out _ _ rfl (by simp)
          | true =>
            cases q3 with
            | false =>
              go_wp2_with (first
                | (go_at_call 19; with_reducible refine K1.out.mono ?_; rintro e w2 ⟨rfl, rfl⟩)
                | (go_at_call 19; with_reducible refine K2.out.mono ?_; rintro e w2 ⟨rfl, rfl⟩)
                | (go_at_call 19; with_reducible refine K3'.out.mono ?_; rintro e w2 ⟨rfl, rfl⟩)
                | (go_at_call 19; with_reducible refine K6.out.mono ?_; rintro e w2 ⟨rfl, rfl⟩))
              go_ret
              exact FIN.out _ _ rfl (by simp)
            | true =>
              go_wp2_with (first
                | (go_at_call 19; with_reducible refine K1.out.mono ?_; rintro e w2 ⟨rfl, rfl⟩)
                | (go_at_call 19; with_reducible refine K2.out.mono ?_; rintro e w2 ⟨rfl, rfl⟩)
                | (go_at_call 19; with_reducible refine K3'.out.mono ?_; rintro e w2 ⟨rfl, rfl⟩)
                | (go_at_call 19; with_reducible refine K6.out.mono ?_; rintro e w2 ⟨rfl, rfl⟩))
              go_ret
              exact FIN.out _ _ rfl (by simp)
      | true =>
        cases d4 with
        | false =>
          cases q1 with
          | false =>
            go_wp2_with (first
              | (go_at_call 19; with_reducible refine K1.out.mono ?_; rintro e w2 ⟨rfl, rfl⟩)
              | (go_at_call 19; with_reducible refine K2.out.mono ?_; rintro e w2 ⟨rfl, rfl⟩)
              | (go_at_call 19; with_reducible refine K3'.out.mono ?_; rintro e w2 ⟨rfl, rfl⟩)
              | (go_at_call 19; with_reducible refine K6.out.mono ?_; rintro e w2 ⟨rfl, rfl⟩))
            go_ret
            exact FIN.out _ _ rfl (by simp)
          | true =>
            cases q2 with
            | false =>
              go_wp2_with (first
                | (go_at_call 19; with_reducible refine K1.out.mono ?_; rintro e w2 ⟨rfl, rfl⟩)
                | (go_at_call 19; with_reducible refine K2.out.mono ?_; rintro e w2 ⟨rfl, rfl⟩)
                | (go_at_call 19; with_reducible refine K3'.out.mono ?_; rintro e w2 ⟨rfl, rfl⟩)
                | (go_at_call 19; with_reducible refine K6.out.mono ?_; rintro e w2 ⟨rfl, rfl⟩))
              go_ret
              exact FIN.out _ _ rfl (by simp)
            | true =>
              cases q3 with
              | false =>
                go_wp2_with (first
                  | (go_at_call 19; with_reducible refine K1.out.mono ?_; rintro e w2 ⟨rfl, rfl⟩)
                  | (go_at_call 19; with_reducible refine K2.out.mono ?_; rintro e w2 ⟨rfl, rfl⟩)
                  | (go_at_call 19; with_reducible refine K3'.out.mono ?_; rintro e w2 ⟨rfl, rfl⟩)
                  | (go_at_call 19; with_reducible refine K6.out.mono ?_; rintro e w2 ⟨rfl, rfl⟩))
                go_ret
                exact FIN.out _ _ rfl (by simp)
              | true =>
                go_wp2_with (first
                  | (go_at_call 19; with_reducible refine K1.out.mono ?_; rintro e w2 ⟨rfl, rfl⟩)
                  | (go_at_call 19; with_reducible refine K2.out.mono ?_; rintro e w2 ⟨rfl, rfl⟩)
                  | (go_at_call 19; with_reducible refine K3'.out.mono ?_; rintro e w2 ⟨rfl, rfl⟩)
                  | (go_at_call 19; with_reducible refine K6.out.mono ?_; rintro e w2 ⟨rfl, rfl⟩))
                go_ret
                exact FIN.out _ _ rfl (by simp)
        | true =>
          cases q1 with
          | false =>
            go_wp2_with (first
              | (go_at_call 19; with_reducible refine K1.out.mono ?_; rintro e w2 ⟨rfl, rfl⟩)
              | (go_at_call 19; with_reducible refine K2.out.mono ?_; rintro e w2 ⟨rfl, rfl⟩)
              | (go_at_call 19; with_reducible refine K3'.out.mono ?_; rintro e w2 ⟨rfl, rfl⟩)
              | (go_at_call 19; with_reducible refine K6.out.mono ?_; rintro e w2 ⟨rfl, rfl⟩))
            go_ret
            exact FIN.out _ _ rfl (by simp)
          | true =>
            cases q2 with
            | false =>
              go_wp2_with (first
                | (go_at_call 19; with_reducible refine K1.out.mono ?_; rintro e w2 ⟨rfl, rfl⟩)
                | (go_at_call 19; with_reducible refine K2.out.mono ?_; rintro e w2 ⟨rfl, rfl⟩)
                | (go_at_call 19; with_reducible refine K3'.out.mono ?_; rintro e w2 ⟨rfl, rfl⟩)
                | (go_at_call 19; with_reducible refine K6.out.mono ?_; rintro e w2 ⟨rfl, rfl⟩))
              go_ret
              exact FIN.out _ _ rfl (by simp)
            | true =>
              cases q3 with
              | false =>
                go_wp2_with (first
                  | (go_at_call 19; with_reducible refine K1.out.mono ?_; rintro e w2 ⟨rfl, rfl⟩)
                  | (go_at_call 19; with_reducible refine K2.out.mono ?_; rintro e w2 ⟨rfl, rfl⟩)
                  | (go_at_call 19; with_reducible refine K3'.out.mono ?_; rintro e w2 ⟨rfl, rfl⟩)
                  | (go_at_call 19; with_reducible refine K6.out.mono ?_; rintro e w2 ⟨rfl, rfl⟩))
                go_ret
                exact FIN.out _ _ rfl (by simp)
              | true =>
                cases q6 with
                | false =>
                  go_wp2_with (first
                    | (go_at_call 19; with_reducible refine K1.out.mono ?_; rintro e w2 ⟨rfl, rfl⟩)
                    | (go_at_call 19; with_reducible refine K2.out.mono ?_; rintro e w2 ⟨rfl, rfl⟩)
                    | (go_at_call 19; with_reducible refine K3'.out.mono ?_; rintro e w2 ⟨rfl, rfl⟩)
                    | (go_at_call 19; with_reducible refine K6.out.mono ?_; rintro e w2 ⟨rfl, rfl⟩))
                  go_ret
                  exact FIN.out _ _ rfl (by simp)
                | true =>
                  go_wp2_with (first
                    | (go_at_call 19; with_reducible refine K1.out.mono ?_; rintro e w2 ⟨rfl, rfl⟩)
                    | (go_at_call 19; with_reducible refine K2.out.mono ?_; rintro e w2 ⟨rfl, rfl⟩)
                    | (go_at_call 19; with_reducible refine K3'.out.mono ?_; rintro e w2 ⟨rfl, rfl⟩)
                    | (go_at_call 19; with_reducible refine K6.out.mono ?_; rintro e w2 ⟨rfl, rfl⟩))
                  go_ret
                  exact FIN.out _ _ rfl (by simp)
end Go.Proofs.Ytglpjoijkinlbaa.Rv
