/-
  The stream's receiver: Hear. Conditions: as in the text that it imports; the bytes are bytes.
-/
import Derived.Test.YtgkcncdanhkkoaaFr
namespace Go.Proofs.Ytgkcncdanhkkoaa.Fw
open Go.RowKit Go.Maps Go.Proofs.Ytgkcncdanhkkoaa.Sp Go.Proofs.YtgkcncdanhkkoaaW.PrintWords Go.Proofs.YtgkcncdanhkkoaaW.PrintLast Go.Proofs.YtgkcncdanhkkoaaW.PrintMore
set_option linter.unusedVariables false
set_option linter.unusedSimpArgs false

theorem below_drN {B : Nat} {a w : World} (h : Below B a w) (n : Nat) : Below B a (w.drewN n) := h.trans ⟨rfl, rfl, rfl, Nat.le_refl _, fun _ _ => rfl⟩
def hearB (r : Rc) (off : Int) (n : Nat) : Bool := decide (off < 0) || decide (1048576 < off) || decide (n < 1) || decide (500 < n) || decide (min ((r.read : Int) + r.win) 1048576 < off + n)
set_option maxRecDepth 100000 in
set_option maxHeartbeats 2000000 in
theorem rcv_hear_no (base g : Nat) (r : Rc) (w : World) (ok : Nat → Prop) (off : Int) (A : Option Addr) (m c : Nat) (h : RcvAt base g r w ok) (hm : m ≤ 1000000000000) (hb : hearB r off m = true) :
    Calls Try.prog 10 #[.pointer (some ⟨g, 0, none⟩), .agg #[.int .i64 off, .slice A m c]] w fun e w' => e = .returned (.bool false) ∧ Below w.heap.size w w' := by
  obtain ⟨⟨B, v, D, h1, h2, h5, h6, h7, h8⟩, h9⟩ := h
  obtain ⟨b1, b2, b3, b4, b5, b6⟩ := h8
  have hg : g < w.heap.size := (Array.getElem?_eq_some_iff.1 h1).1
  obtain ⟨W, hW⟩ : ∃ W, w.alloc (.cells #[.int .i64 off, .slice A m c] 29) = W := ⟨_, rfl⟩
  have hbW : Below w.heap.size w W := by rw [← hW]; exact (Below.refl _ _).alloc (Nat.le_refl _) _
  have h1W := (hbW.block g hg).trans h1
  have hE : W.heap[w.heap.size]? = some (.cells #[.int .i64 off, .slice A m c] 29 (0, 0)) := by rw [← hW]; exact new_cellsN _ _ _
  have c0 := cell_cellsN h1W 0 (by simp)
  have c2 := cell_cellsN h1W 2 (by simp)
  have d0 := cell_cellsN hE 0 (by simp)
  have d1 := cell_cellsN hE 1 (by simp)
  dsimp only [List.getElem_toArray, List.getElem_cons_zero, List.getElem_cons_succ] at c0 c2 d0 d1
  have HBW := Lib.hid hbW
  clear h1 h2 h5 h6 h7 h9 b1 b6 h1W hE hbW
  unfold hearB at hb
  by_cases k1 : off < 0
  · have g1 : decide (off < 0) = true := decide_eq_true k1
    clear hb
    go_enter Try.func10, Try.ntmps10
    go_wp2
    go_quiet (fail)
    go_wp2
    go_ret
    exact ⟨rfl, below_drN HBW.out _⟩
  · have g1 : decide (off < 0) = false := decide_eq_false k1
    by_cases k2 : 1048576 < off
    · have g2 : decide (1048576 < off) = true := decide_eq_true k2
      clear hb
      go_enter Try.func10, Try.ntmps10
      go_wp2
      go_quiet (fail)
      go_wp2
      go_ret
      exact ⟨rfl, below_drN HBW.out _⟩
    · have g2 : decide (1048576 < off) = false := decide_eq_false k2
      by_cases k3 : m < 1
      · have g3 : decide ((m : Int) < 1) = true := decide_eq_true (by omega)
        have g3n : decide (m < 1) = true := decide_eq_true k3
        have m0 : m = 0 := by omega
        subst m0
        clear hb
        go_enter Try.func10, Try.ntmps10
        go_wp2
        go_quiet (fail)
        go_wp2
        go_ret
        exact ⟨rfl, below_drN HBW.out _⟩
      · have g3 : decide ((m : Int) < 1) = false := decide_eq_false (by omega)
        by_cases k4 : 500 < m
        · have g4 : decide (500 < (m : Int)) = true := decide_eq_true (by omega)
          clear hb
          go_enter Try.func10, Try.ntmps10
          go_wp2
          go_quiet (fail)
          go_wp2
          go_ret
          exact ⟨rfl, below_drN HBW.out _⟩
        · have g4 : decide (500 < (m : Int)) = false := decide_eq_false (by omega)
          have e1 : IntKind.i64.wrap (off + (m : Int)) = off + (m : Int) := i64_of (by omega)
          have e2 : IntKind.i64.wrap ((r.read : Int) + (r.win : Int)) = (r.read : Int) + (r.win : Int) := i64_of (by omega)
          obtain ⟨T, hT⟩ : ∃ T, min ((r.read : Int) + r.win) 1048576 = T := ⟨_, rfl⟩
          have q1 : (if 1048576 < (r.read : Int) + (r.win : Int) then 1048576 else (r.read : Int) + (r.win : Int)) = T := by rw [← hT]; split <;> omega
          have g5 : decide (T < off + (m : Int)) = true := by
            rw [hT] at hb
            simp only [Bool.or_eq_true, decide_eq_true_eq] at hb
            exact decide_eq_true (by omega)
          clear hb hT
          go_enter Try.func10, Try.ntmps10
          go_wp2
          go_quiet (fail)
          go_wp2
          go_ret
          exact ⟨rfl, below_drN HBW.out _⟩

/-! ### what is heard -/
def fillG (G : Nat → Option Int) (off : Nat) (l : List Int) : Nat → Option Int := fun j => match G j with | some c => some c | none => if off ≤ j then l[j - off]? else none
theorem fill_nil (G : Nat → Option Int) (off : Nat) : fillG G off [] = G := by
  funext j
  unfold fillG
  cases G j with
  | some c => rfl
  | none => dsimp only; split <;> simp
theorem fill_none {G : Nat → Option Int} {off : Nat} {l : List Int} {i : Nat} (hi : i < l.length) (h : G (off + i) = none) : fillG G off (l.take (i + 1)) = upd (fillG G off (l.take i)) (off + i) l[i] := by
  funext j
  unfold upd fillG
  by_cases hj : j = off + i
  · subst hj
    rw [if_pos rfl, h]
    dsimp only
    rw [if_pos (by omega), show off + i - off = i by omega, List.getElem?_take, if_pos (by omega), List.getElem?_eq_getElem hi]
  · rw [if_neg hj]
    cases G j with
    | some c => rfl
    | none =>
      dsimp only
      by_cases ho : off ≤ j
      · rw [if_pos ho, if_pos ho, List.getElem?_take, List.getElem?_take]
        by_cases h1 : j - off < i
        · rw [if_pos (by omega), if_pos h1]
        · rw [if_neg (by omega), if_neg h1]
      · rw [if_neg ho, if_neg ho]
theorem fill_some {G : Nat → Option Int} {off : Nat} {l : List Int} {i : Nat} {c : Int} (h : G (off + i) = some c) : fillG G off (l.take (i + 1)) = fillG G off (l.take i) := by
  funext j
  unfold fillG
  by_cases hj : j = off + i
  · subst hj
    rw [h]
  · cases G j with
    | some c => rfl
    | none =>
      dsimp only
      by_cases ho : off ≤ j
      · rw [if_pos ho, if_pos ho, List.getElem?_take, List.getElem?_take]
        by_cases h1 : j - off < i
        · rw [if_pos (by omega), if_pos h1]
        · rw [if_neg (by omega), if_neg h1]
      · rw [if_neg ho, if_neg ho]
theorem fill_at {G : Nat → Option Int} {off : Nat} {l : List Int} {i : Nat} : fillG G off (l.take i) (off + i) = G (off + i) := by
  unfold fillG
  cases h : G (off + i) with
  | some c => rfl
  | none =>
    dsimp only
    rw [if_pos (by omega), show off + i - off = i by omega, List.getElem?_take, if_neg (by omega)]
theorem fill_val {G : Nat → Option Int} {off : Nat} {l : List Int} {j : Nat} {c : Int} (h : fillG G off l j = some c) : G j = some c ∨ (G j = none ∧ off ≤ j ∧ l[j - off]? = some c) := by
  unfold fillG at h
  cases hg : G j with
  | some d => rw [hg] at h; exact .inl h
  | none =>
    rw [hg] at h
    dsimp only at h
    by_cases ho : off ≤ j
    · rw [if_pos ho] at h
      exact .inr ⟨rfl, ho, h⟩
    · rw [if_neg ho] at h
      cases h
end Go.Proofs.Ytgkcncdanhkkoaa.Fw
