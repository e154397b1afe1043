/-
  Objects in memory side by side: each has blocks of its own, no two share one. No program in sight but the model's worlds.
-/
import Derived.Test.YtmidmdbhbhjcdaaProg
import Derived.Below
import Derived.Tactics
import Derived.RowKit
import Derived.RowKit3
namespace Go.Proofs.Ytmidmdbhbhjcdaa.Sp
open Go.RowKit
set_option linter.unusedVariables false

/-- Off ok's blocks all lies as it lay. -/
def Off (ok : Nat → Prop) (w w' : World) : Prop := w.heap.size ≤ w'.heap.size ∧ ∀ b, b < w.heap.size → ¬ ok b → w'.heap[b]? = w.heap[b]?
theorem Off.refl (ok : Nat → Prop) (w : World) : Off ok w w := ⟨Nat.le_refl _, fun _ _ _ => rfl⟩
theorem Off.trans {ok : Nat → Prop} {a b c : World} (h : Off ok a b) (k : Off ok b c) : Off ok a c := ⟨Nat.le_trans h.1 k.1, fun i hi hn => (k.2 i (Nat.lt_of_lt_of_le hi h.1) hn).trans (h.2 i hi hn)⟩
theorem Off.below {ok : Nat → Prop} {w w' : World} (h : Below w.heap.size w w') : Off ok w w' := ⟨h.size, fun b hb _ => h.block b hb⟩
theorem Off.grown {ok : Nat → Prop} {a b : World} {row : Option Nat} (hg : a.grownBy b row) (hr : ∀ k, row = some k → ok k) : Off ok a b := ⟨hg.size, fun i hi hn => hg.block i hi (fun e => hn (hr i e.symm))⟩
theorem Off.set {ok : Nat → Prop} (w : World) {p : Addr} (hp : ok p.block) (v : Value) : Off ok w (w.setCell p v) :=
  ⟨by simp [World.setCell], fun b _ hn => Below.heap_setCell _ _ _ _ (fun e => hn (e ▸ hp))⟩
theorem Off.mono {ok ok' : Nat → Prop} {w w' : World} (h : Off ok w w') (ho : ∀ k, ok k → k < w.heap.size → ok' k) : Off ok' w w' := ⟨h.1, fun b hb hn => h.2 b hb (fun h1 => hn (ho b h1 hb))⟩

/-- A kind of object: what is said of it, of a world and of the blocks that are its own; it stays so where those blocks stay. -/
structure Ob where
  P : World → (Nat → Prop) → Prop
  step : ∀ {w w1 : World} {ok : Nat → Prop}, P w ok → (∀ k, ok k → k < w.heap.size → w1.heap[k]? = w.heap[k]?) → P w1 ok
/-- The objects lie side by side; none has a block of av's. -/
def Sep (w : World) : List Ob → (Nat → Prop) → Prop
  | [], av => ∀ k, av k → k < w.heap.size
  | X :: Xs, av => ∃ ok, X.P w ok ∧ (∀ k, ok k → k < w.heap.size) ∧ (∀ k, av k → ¬ ok k) ∧ Sep w Xs (fun k => av k ∨ ok k)
theorem Sep.sub {w : World} : ∀ {Xs : List Ob} {av av' : Nat → Prop}, Sep w Xs av → (∀ k, av' k → av k) → Sep w Xs av'
  | [], av, av', h, hs => fun k hk => h k (hs k hk)
  | X :: Xs, av, av', ⟨ok, h1, h2, h3, h4⟩, hs => ⟨ok, h1, h2, fun k hk => h3 k (hs k hk), h4.sub (fun k hk => hk.imp (hs k) id)⟩
theorem Sep.lt {w : World} : ∀ {Xs : List Ob} {av : Nat → Prop}, Sep w Xs av → ∀ k, av k → k < w.heap.size
  | [], av, h => h
  | X :: Xs, av, ⟨ok, h1, h2, h3, h4⟩ => fun k hk => h4.lt k (.inl hk)
theorem Sep.swap {w : World} {X Y : Ob} {Xs : List Ob} {av : Nat → Prop} (h : Sep w (X :: Y :: Xs) av) : Sep w (Y :: X :: Xs) av := by
  obtain ⟨ok, h1, h2, h3, ok', k1, k2, k3, k4⟩ := h
  exact ⟨ok', k1, k2, fun k hk => k3 k (.inl hk), ok, h1, h2, fun k hk => hk.elim (h3 k) (fun a b => k3 k (.inr b) a), k4.sub (fun k hk => by rcases hk with (a | a) | a <;> simp [a])⟩
/-- What is taken away, and laid back with av's of one's own. -/
theorem Sep.tail {w : World} {X : Ob} {Xs : List Ob} {av : Nat → Prop} (h : Sep w (X :: Xs) av) : Sep w Xs av := by
  obtain ⟨ok, _, _, _, h4⟩ := h
  exact h4.sub (fun k hk => .inl hk)
/-- All of them stay where all blocks but fresh ones stay. -/
theorem Sep.off {w w1 : World} (o : Nat → Prop) : ∀ {Xs : List Ob} {av : Nat → Prop}, Sep w Xs (fun k => av k ∨ (o k ∧ k < w.heap.size)) → Off o w w1 → Sep w1 Xs (fun k => av k ∨ (o k ∧ k < w.heap.size) ∨ (w.heap.size ≤ k ∧ k < w1.heap.size))
  | [], av, h, ho => fun k hk => by
    rcases hk with a | a | a
    · exact Nat.lt_of_lt_of_le (h k (.inl a)) ho.1
    · exact Nat.lt_of_lt_of_le a.2 ho.1
    · exact a.2
  | X :: Xs, av, ⟨ok, h1, h2, h3, h4⟩, ho => by
    refine ⟨ok, X.step h1 (fun k hk hlt => ho.2 k hlt (fun e => h3 k (.inr ⟨e, hlt⟩) hk)), fun k hk => Nat.lt_of_lt_of_le (h2 k hk) ho.1, fun k hk => ?_, ?_⟩
    · rcases hk with a | a | a
      · exact h3 k (.inl a)
      · exact h3 k (.inr a)
      · exact fun e => by have := h2 k e; omega
    · have h5 := Sep.off o (Xs := Xs) (av := fun k => av k ∨ ok k) (h4.sub (fun k hk => by rcases hk with (a | a) | a <;> simp [a])) ho
      exact h5.sub (fun k hk => by rcases hk with (a | a | a) | a <;> simp [a])
theorem Sep.step {w w1 : World} {Xs : List Ob} {av : Nat → Prop} (h : Sep w Xs av) (hb : Below w.heap.size w w1) : Sep w1 Xs (fun k => av k ∨ (w.heap.size ≤ k ∧ k < w1.heap.size)) :=
  (Sep.off (fun _ => False) (h.sub (fun k hk => hk.elim id (fun a => a.1.elim))) (Off.below hb)).sub (fun k hk => hk.imp id .inr)
theorem Sep.step' {w w1 : World} {Xs : List Ob} {av : Nat → Prop} (h : Sep w Xs av) (hb : Below w.heap.size w w1) : Sep w1 Xs av := (h.step hb).sub (fun k hk => .inl hk)
/-- The first is turned: its new blocks are fresh. -/
theorem Sep.turn {w w1 : World} {X X' : Ob} {Xs : List Ob} {av : Nat → Prop} (h : Sep w (X :: Xs) av)
    (hc : ∀ ok, X.P w ok → (∀ k, ok k → k < w.heap.size) → ∃ ok', X'.P w1 ok' ∧ (∀ k, ok' k → ok k ∨ w.heap.size ≤ k) ∧ (∀ k, ok' k → k < w1.heap.size) ∧ Off ok w w1) : Sep w1 (X' :: Xs) av ∧ ∀ b, av b → w1.heap[b]? = w.heap[b]? := by
  obtain ⟨ok, h1, h2, h3, h4⟩ := h
  obtain ⟨ok', k1, k2, k3, k4⟩ := hc ok h1 h2
  refine ⟨⟨ok', k1, k3, fun k hk e => ?_, ?_⟩, fun b hb => k4.2 b (h4.lt b (.inl hb)) (h3 b hb)⟩
  · rcases k2 k e with a | a
    · exact h3 k hk a
    · have := h4.lt k (.inl hk); omega
  · refine (Sep.off ok (av := av) (h4.sub (fun k hk => hk.imp id (fun a => a.1))) k4).sub (fun k hk => ?_)
    rcases hk with a | a
    · exact .inl a
    · rcases k2 k a with b | b
      · exact .inr (.inl ⟨b, h2 k b⟩)
      · exact .inr (.inr ⟨b, k3 k a⟩)
/-- One more, of fresh blocks. -/
theorem Sep.more {w w1 : World} {X : Ob} {Xs : List Ob} {av : Nat → Prop} (h : Sep w Xs av) (hb : Below w.heap.size w w1) (hX : ∃ ok, X.P w1 ok ∧ ∀ k, ok k → w.heap.size ≤ k ∧ k < w1.heap.size) : Sep w1 (X :: Xs) av := by
  obtain ⟨ok, h1, h2⟩ := hX
  refine ⟨ok, h1, fun k hk => (h2 k hk).2, fun k hk e => ?_, (h.step hb).sub (fun k hk => hk.imp id (fun a => h2 k a))⟩
  have := (h2 k e).1
  have := h.lt k hk
  omega
/-- What the first says. -/
theorem Sep.head {w : World} {X : Ob} {Xs : List Ob} {av : Nat → Prop} (h : Sep w (X :: Xs) av) : ∃ ok, X.P w ok := by
  obtain ⟨ok, h1, _⟩ := h
  exact ⟨ok, h1⟩
end Go.Proofs.Ytmidmdbhbhjcdaa.Sp
