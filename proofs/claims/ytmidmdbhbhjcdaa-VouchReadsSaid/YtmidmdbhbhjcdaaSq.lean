/-
  Objects in memory side by side, more: one is turned and the others stay. No program in sight but the model's worlds.
-/
import Derived.Test.YtmidmdbhbhjcdaaSep
import Derived.Deep.Draws
namespace Go.Proofs.Ytmidmdbhbhjcdaa.Sp
open Go.RowKit
set_option linter.unusedVariables false
/-- The first is turned: its new blocks are fresh. -/
theorem Sep.turned {w w1 : World} {X X' : Ob} {Xs : List Ob} {av ok ok' : Nat → Prop} (h2 : ∀ k, ok k → k < w.heap.size) (h3 : ∀ k, av k → ¬ ok k) (h4 : Sep w Xs (fun k => av k ∨ ok k))
    (k1 : X'.P w1 ok') (k2 : ∀ k, ok' k → ok k ∨ w.heap.size ≤ k) (k3 : ∀ k, ok' k → k < w1.heap.size) (k4 : Off (fun k => ok k ∨ w.heap.size ≤ k) w w1) : Sep w1 (X' :: Xs) av ∧ ∀ b, av b → w1.heap[b]? = w.heap[b]? := by
  have k5 : Off ok w w1 := k4.mono (fun k hk hlt => hk.elim id (fun a => by omega))
  refine ⟨⟨ok', k1, k3, fun k hk e => ?_, ?_⟩, fun b hb => k5.2 b (h4.lt b (.inl hb)) (h3 b hb)⟩
  · rcases k2 k e with a | a
    · exact h3 k hk a
    · have := h4.lt k (.inl hk); omega
  · refine (Sep.off ok (av := av) (h4.sub (fun k hk => hk.imp id (fun a => a.1))) k5).sub (fun k hk => ?_)
    rcases hk with a | a
    · exact .inl a
    · rcases k2 k a with b | b
      · exact .inr (.inl ⟨b, h2 k b⟩)
      · exact .inr (.inr ⟨b, k3 k a⟩)
/-- The first is turned on its own blocks; all that is fresh may be taken. -/
theorem Sep.kept {w w1 : World} {X X' : Ob} {Xs : List Ob} {av ok : Nat → Prop} (h2 : ∀ k, ok k → k < w.heap.size) (h3 : ∀ k, av k → ¬ ok k) (h4 : Sep w Xs (fun k => av k ∨ ok k))
    (k1 : X'.P w1 ok) (k4 : Off ok w w1) : Sep w1 (X' :: Xs) (fun k => av k ∨ (w.heap.size ≤ k ∧ k < w1.heap.size)) ∧ ∀ b, av b → w1.heap[b]? = w.heap[b]? := by
  refine ⟨⟨ok, k1, fun k hk => Nat.lt_of_lt_of_le (h2 k hk) k4.1, fun k hk e => ?_, ?_⟩, fun b hb => k4.2 b (h4.lt b (.inl hb)) (h3 b hb)⟩
  · rcases hk with a | a
    · exact h3 k a e
    · have := h2 k e; omega
  · refine (Sep.off ok (av := av) (h4.sub (fun k hk => hk.imp id (fun a => a.1))) k4).sub (fun k hk => ?_)
    rcases hk with (a | a) | a
    · exact .inl a
    · exact .inr (.inr a)
    · exact .inr (.inl ⟨a, h2 k a⟩)
theorem Sep.drawn {w : World} {Xs : List Ob} {av : Nat → Prop} (h : Sep w Xs av) (n : Nat) : Sep (w.drewN n) Xs av := h.step' ⟨rfl, rfl, rfl, Nat.le_refl _, fun _ _ => rfl⟩
theorem Sep.third {w : World} {X Y Z : Ob} {Xs : List Ob} {av : Nat → Prop} (h : Sep w (X :: Y :: Z :: Xs) av) : Sep w (Z :: X :: Y :: Xs) av := by
  obtain ⟨ok, h1, h2, h3, h4⟩ := h
  exact Sep.swap ⟨ok, h1, h2, h3, Sep.swap h4⟩
theorem Sep.back {w : World} {X Y Z : Ob} {Xs : List Ob} {av : Nat → Prop} (h : Sep w (Z :: X :: Y :: Xs) av) : Sep w (X :: Y :: Z :: Xs) av := by
  obtain ⟨ok, h1, h2, h3, h4⟩ := Sep.swap h
  exact ⟨ok, h1, h2, h3, Sep.swap h4⟩
theorem Sep.fourth {w : World} {X Y Z V : Ob} {Xs : List Ob} {av : Nat → Prop} (h : Sep w (X :: Y :: Z :: V :: Xs) av) : Sep w (V :: X :: Y :: Z :: Xs) av := by
  obtain ⟨ok, h1, h2, h3, h4⟩ := h
  exact Sep.swap ⟨ok, h1, h2, h3, Sep.third h4⟩
theorem Sep.back4 {w : World} {X Y Z V : Ob} {Xs : List Ob} {av : Nat → Prop} (h : Sep w (V :: X :: Y :: Z :: Xs) av) : Sep w (X :: Y :: Z :: V :: Xs) av := by
  obtain ⟨ok, h1, h2, h3, h4⟩ := Sep.swap h
  exact ⟨ok, h1, h2, h3, Sep.back h4⟩
/-- The first takes blocks of av's. -/
theorem Sep.taken {w w1 : World} {X X' : Ob} {Xs : List Ob} {av ok ok' : Nat → Prop} (h2 : ∀ k, ok k → k < w.heap.size) (h4 : Sep w Xs (fun k => av k ∨ ok k))
    (k1 : X'.P w1 ok') (k2 : ∀ k, ok' k → av k ∨ ok k ∨ w.heap.size ≤ k) (k3 : ∀ k, ok' k → k < w1.heap.size) (k4 : Off (fun k => ok k ∨ w.heap.size ≤ k) w w1) : Sep w1 (X' :: Xs) (fun _ => False) := by
  have k5 : Off ok w w1 := k4.mono (fun k hk hlt => hk.elim id (fun a => by omega))
  refine ⟨ok', k1, k3, fun k hk e => hk.elim, ?_⟩
  refine (Sep.off ok (av := av) (h4.sub (fun k hk => hk.imp id (fun a => a.1))) k5).sub (fun k hk => ?_)
  rcases hk with a | a
  · exact a.elim
  · rcases k2 k a with b | b | b
    · exact .inl b
    · exact .inr (.inl ⟨b, h2 k b⟩)
    · exact .inr (.inr ⟨b, k3 k a⟩)
theorem Off.drew {ok : Nat → Prop} {w w' : World} (h : Off ok w w') : Off ok w w'.drew := h
theorem Off.later {ok : Nat → Prop} {w y : World} (h : Off ok w y) {p : Addr} (hp : w.heap.size ≤ p.block) (v : Value) : Off ok w (y.setCell p v) :=
  ⟨by have := h.1; simp [World.setCell]; omega, fun b hb hn => (Below.heap_setCell _ _ _ _ (by omega)).trans (h.2 b hb hn)⟩
end Go.Proofs.Ytmidmdbhbhjcdaa.Sp
