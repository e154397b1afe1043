/-
  The stream's receiver (flow.Receiver): what its functions answer and what they leave. G says of each place the byte that came there; the bytes b are those ahead of the first gap. Conditions: the window as NewReceiver lets it be, at most a milliard bytes heard.
-/
import Derived.Test.YtgkcncdanhkkoaaFw
import Derived.Maps.Keyed
import Derived.Maps.OwnOps
namespace Go.Proofs.Ytgkcncdanhkkoaa.Fw
open Go.RowKit Go.Maps Go.Proofs.Ytgkcncdanhkkoaa.Sp Go.Proofs.YtgkcncdanhkkoaaW.PrintWords Go.Proofs.YtgkcncdanhkkoaaW.PrintLast Go.Proofs.YtgkcncdanhkkoaaW.PrintMore
set_option linter.unusedVariables false
set_option linter.unusedSimpArgs false

/-! ### what the map holds -/
def key (i : Nat) : Lit := .int .i64 i
def z8 : DataW Unit := .lit (.int .u8 0)
theorem lawI : Keyed Try.prog 3 := int_keyed Try.underlying3
theorem wf_nat {i : Nat} (h : i < 2000000000) : (Lit.int .i64 (i : Int)).wf = true := WalkArith.wf_i64 (by omega)
theorem key_of {i : Nat} (h : i < 2000000000) : keyOf Try.prog 3 (.int .i64 i) = some (key i) := keyOf_int_mk Try.underlying3 (wf_nat h)
theorem key_lit {i : Nat} (h : i < 2000000000) : WideAt.IsKeyLit (key i) := lawI.key (key_of h)
theorem key_ne {i j : Nat} (h : i ≠ j) : key i ≠ key j := fun e => h (by
  unfold key at e
  injection e with _ e
  omega)
def Bey (D : DataW Unit) (e : Nat) (G : Nat → Option Int) : Prop :=
  IsMap D ∧ ∀ i : Nat, e ≤ i → i < 2000000 → (G i = none → Maps.has D (key i) = false) ∧ ∀ c, G i = some c → Maps.has D (key i) = true ∧ D.atKey (key i) z8 = .lit (.int .u8 c)
theorem bey_nil (e : Nat) : Bey (.map []) e (fun _ => none) := ⟨isMap_empty, fun i _ _ => ⟨fun _ => rfl, fun c h => by cases h⟩⟩
def upd (G : Nat → Option Int) (i : Nat) (c : Int) : Nat → Option Int := fun j => if j = i then some c else G j
theorem bey_put {D : DataW Unit} {e : Nat} {G : Nat → Option Int} (h : Bey D e G) (i : Nat) (c : Int) (hi : i < 2000000) : Bey (D.put (key i) (.lit (.int .u8 c))) e (upd G i c) := by
  refine ⟨h.1.put _ _, fun j h1 h2 => ?_⟩
  unfold upd
  by_cases hj : j = i
  · subst hj
    rw [if_pos rfl]
    refine ⟨(fun h => by cases h), fun c' hc => ?_⟩
    injection hc with hc
    subst hc
    exact ⟨has_put_same h.1 (key_lit (by omega)) _, atKey_put_same h.1 (key_lit (by omega)) _ _⟩
  · rw [if_neg hj, has_put_other (key_ne hj), atKey_put_other (key_ne hj)]
    exact h.2 j h1 h2
theorem bey_del {D : DataW Unit} {e : Nat} {G : Nat → Option Int} (h : Bey D e G) : Bey (D.del (key e)) (e + 1) G := by
  refine ⟨h.1.del _, fun j h1 h2 => ?_⟩
  rw [has_del_other (key_ne (by omega)), atKey_del_other (key_ne (by omega))]
  exact h.2 j (by omega) h2

/-! ### a receiver in memory -/
structure Rc where
  win : Nat
  b : List Int
  read : Nat
  n : Nat
  G : Nat → Option Int
/-- The bytes b are what G says; no more is asked of the place behind them. -/
def Rc.half (r : Rc) : Prop := (∀ i, i < r.b.length → r.G i = r.b[i]?) ∧ r.read ≤ r.b.length ∧ r.b.length ≤ 1048576 ∧ 1 ≤ r.win ∧ r.win ≤ 4096 ∧ (∀ i c, r.G i = some c → (0 ≤ c ∧ c ≤ 255) ∧ i < 1048576) ∧ r.n ≤ 1000000000
def Rc.fine (r : Rc) : Prop := r.half ∧ r.G r.b.length = none
def RcvHalf (base g : Nat) (r : Rc) (w : World) (ok : Nat → Prop) : Prop :=
  ∃ B v D, w.heap[g]? = some (.cells #[.int .i64 r.win, v, .int .i64 r.read, .map (some B)] 64 (0, 0)) ∧ (ok g ∧ ok B ∧ base ≤ g ∧ base ≤ B) ∧
    w.ownsMap Try.prog 3 (plainElem Try.prog 5) B r.n D ∧ Bey D r.b.length r.G ∧ (Kd.int .u8).R 5 w base ok v r.b ∧ r.half
def RcvAt (base g : Nat) (r : Rc) (w : World) (ok : Nat → Prop) : Prop := RcvHalf base g r w ok ∧ r.G r.b.length = none
theorem map_move {w w1 : World} {P : Program} {k n b : Nat} {R : Value → Option (DataW Unit × List MemPlace)} {D : DataW Unit} (h : w.ownsMap P k R b n D) (hm : w1.heap[b]? = w.heap[b]?) : w1.ownsMap P k R b n D := by
  obtain ⟨es, clock, hb, r⟩ := h
  exact ⟨es, clock, hm.trans hb, r⟩
theorem RcvHalf.step {base g : Nat} {r : Rc} {w w1 : World} {ok : Nat → Prop} (h : RcvHalf base g r w ok) (hm : ∀ k, ok k → k < w.heap.size → w1.heap[k]? = w.heap[k]?) : RcvHalf base g r w1 ok := by
  obtain ⟨B, v, D, h1, ⟨h2, h3, h4⟩, h5, h6, h7, h8⟩ := h
  exact ⟨B, v, D, (hm g h2 (Array.getElem?_eq_some_iff.1 h1).1).trans h1, ⟨h2, h3, h4⟩, map_move h5 (hm B h3 h5.lt), h6, Kd.R_step h7 hm, h8⟩
def rcvOb (base g : Nat) (r : Rc) : Ob := ⟨RcvAt base g r, fun h hm => ⟨h.1.step hm, h.2⟩⟩
def R0 (win : Nat) : Rc := ⟨win, [], 0, 0, fun _ => none⟩
theorem rcv_new_no (w : World) (x : Int) (h : x < 1 ∨ 4096 < x) : Calls Try.prog 9 #[.int .i64 x] w fun e w' => e = .returned (.tuple #[.pointer none, .int .i64 1]) ∧ w' = w := by
  by_cases h1 : x < 1
  · have g1 : decide (x < 1) = true := decide_eq_true h1
    go_enter Try.func9, Try.ntmps9
    go_wp2
    go_ret2
    exact ⟨rfl, rfl⟩
  · have g1 : decide (x < 1) = false := decide_eq_false h1
    have g2 : decide (4096 < x) = true := decide_eq_true (by omega)
    go_enter Try.func9, Try.ntmps9
    go_wp2
    go_ret2
    exact ⟨rfl, rfl⟩
theorem rcv_new (w : World) (x : Nat) (h1 : 1 ≤ x) (h2 : x ≤ 4096) : Calls Try.prog 9 #[.int .i64 x] w fun e w' => ∃ g, e = .returned (.tuple #[.pointer (some ⟨g, 0, none⟩), .int .i64 0]) ∧ RcvAt w.heap.size g (R0 x) w' (fun k => w.heap.size ≤ k ∧ k < w'.heap.size) ∧ Below w.heap.size w w' := by
  have hmm := @run_makeMap Try.prog
  have g1 : decide ((x : Int) < 1) = false := decide_eq_false (by omega)
  have g2 : decide (4096 < (x : Int)) = false := decide_eq_false (by omega)
  go_enter Try.func9, Try.ntmps9
  go_wp2
  go_ret2
  have hb : Below w.heap.size w ((w.alloc (.map #[] 0)).alloc (.cells #[.int .i64 x, .slice none 0 0, .int .i64 0, .map (some w.heap.size)] 64)) := ((Below.refl _ w).alloc (Nat.le_refl _) _).alloc (by simp) _
  have hn := new_cellsN (w.alloc (.map #[] 0)) 64 #[.int .i64 x, .slice none 0 0, .int .i64 0, .map (some w.heap.size)]
  rw [World.size_alloc] at hn
  have hm := (World.ownsMap_made (H := Unit) w Try.prog 3 (plainElem Try.prog 5)).alloc (.cells #[.int .i64 x, .slice none 0 0, .int .i64 0, .map (some w.heap.size)] 64)
  refine ⟨w.heap.size + 1, rfl, ⟨⟨w.heap.size, .slice none 0 0, _, hn, ⟨⟨by omega, by simp⟩, ⟨by omega, by simp only [World.size_alloc]; omega⟩, by omega, by omega⟩, hm, bey_nil _, Kd.R_nil _ _ _ _ _, ?_⟩, rfl⟩, hb⟩
  unfold Rc.half R0
  exact ⟨fun i hi => by simp at hi, by simp, by simp, h1, h2, (fun i c h => by cases h), by simp⟩
theorem rcv_ack (base g : Nat) (r : Rc) (w : World) (ok : Nat → Prop) (h : RcvAt base g r w ok) : Calls Try.prog 11 #[.pointer (some ⟨g, 0, none⟩)] w fun e w' => e = .returned (.tuple #[.int .i64 r.b.length, .int .i64 ((r.win : Int) - ((r.b.length : Int) - (r.read : Int)))]) ∧ ∃ n, w' = w.drewN n := by
  obtain ⟨⟨B, v, D, h1, h2, h5, h6, h7, h8⟩, h9⟩ := h
  obtain ⟨A, c, rfl, hc, hC⟩ := Kd.R_reads h7
  have c0 := cell_cellsN h1 0 (by simp)
  have c1 := cell_cellsN h1 1 (by simp)
  have c2 := cell_cellsN h1 2 (by simp)
  obtain ⟨b1, b2, b3, b4, b5, b6⟩ := h8
  dsimp only [List.getElem_toArray, List.getElem_cons_zero, List.getElem_cons_succ] at c0 c1 c2
  have e1 : IntKind.i64.wrap ((r.b.length : Int) - (r.read : Int)) = (r.b.length : Int) - (r.read : Int) := i64_of (by omega)
  have e2 : IntKind.i64.wrap ((r.win : Int) - ((r.b.length : Int) - (r.read : Int))) = (r.win : Int) - ((r.b.length : Int) - (r.read : Int)) := i64_of (by omega)
  clear h1 h5 h6 h7 hC b1 b6 h9
  go_enter Try.func11, Try.ntmps11
  go_wp2
  go_quiet (fail)
  go_wp2
  go_ret2
  exact ⟨rfl, _, rfl⟩
end Go.Proofs.Ytgkcncdanhkkoaa.Fw
