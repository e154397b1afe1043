/-
  The stream's sender and receiver and the reference's, side by side: each function turns its own object. Conditions: as in the texts that it imports.
-/
import Derived.Test.YtgkcncdanhkkoaaGh
import Derived.Test.YtgkcncdanhkkoaaFm
namespace Go.Proofs.Ytgkcncdanhkkoaa.Fw
open Go.RowKit Go.Maps Go.Proofs.Ytgkcncdanhkkoaa.Sp Go.Proofs.YtgkcncdanhkkoaaW.PrintWords Go.Proofs.YtgkcncdanhkkoaaW.PrintLast Go.Proofs.YtgkcncdanhkkoaaW.PrintMore
set_option linter.unusedVariables false
set_option linter.unusedSimpArgs false
section
variable {base g : Nat} {s : S} {r : Rc} {w : World} {Xs : List Ob} {av : Nat → Prop}
theorem qs_write (A : Option Addr) (c : Nat) (l : List Int) (h : Sep w (rsOb base g s :: Xs) av) (hbs : base ≤ w.heap.size) (hr : ∀ V : World, Below base w V → (Kd.int .u8).C V A l.length l) (hc : l.length ≤ c) (hl : ∀ b ∈ l, 0 ≤ b ∧ b ≤ 255) (hll : l.length ≤ 1000000000) :
    Calls Try.prog 21 #[.pointer (some ⟨g, 0, none⟩), .slice A l.length c] w fun e w' => e = .returned (.int .i64 (writeN s l)) ∧ Sep w' (rsOb base g (writeS s l) :: Xs) av ∧ (∀ b, av b → w'.heap[b]? = w.heap[b]?) ∧ Below base w w' := by
  obtain ⟨ok, h1, h2, h3, h4⟩ := h
  refine (rs_write base g s w (fun k => ok k ∨ w.heap.size ≤ k) A c l (RsAt.mono h1 (fun k hk => .inl hk)) (fun k hk => .inr hk) hbs hr hc hl hll).mono ?_
  rintro e w' ⟨he, hS, hO, hB⟩
  have ht := Sep.turned (X := rsOb base g s) (X' := rsOb base g (writeS s l)) h2 h3 h4 (show (rsOb base g (writeS s l)).P w' (fun k => (ok k ∨ w.heap.size ≤ k) ∧ k < w'.heap.size) from RsAt.bound hS) (fun k hk => hk.1) (fun k hk => hk.2) hO
  exact ⟨he, ht.1, ht.2, hB⟩
theorem qs_ack_no (u d : Int) (h : Sep w (rsOb base g s :: Xs) av) (hb : ackB s u d = true) :
    Calls Try.prog 23 #[.pointer (some ⟨g, 0, none⟩), .int .i64 u, .int .i64 d] w fun e w' => e = .returned (.bool false) ∧ w' = w := by
  obtain ⟨ok, h1, h2, h3, h4⟩ := h
  exact rs_ack_no base g s w ok u d h1 hb
theorem qs_ack_yes (u d : Nat) (h : Sep w (rsOb base g s :: Xs) av) (hb : ackB s u d = false) :
    Calls Try.prog 23 #[.pointer (some ⟨g, 0, none⟩), .int .i64 u, .int .i64 d] w fun e w' => e = .returned (.bool true) ∧ Sep w' (rsOb base g (ackS s u d) :: Xs) av ∧ (∀ b, av b → w'.heap[b]? = w.heap[b]?) ∧ Below base w w' := by
  obtain ⟨ok, h1, h2, h3, h4⟩ := h
  refine (rs_ack_yes base g s w ok u d h1 hb).mono ?_
  rintro e w' ⟨he, hS, hO, hB⟩
  have ht := Sep.kept (X := rsOb base g s) (X' := rsOb base g (ackS s u d)) h2 h3 h4 hS hO
  exact ⟨he, ht.1.sub (fun k hk => .inl hk), ht.2, hB⟩
theorem qs_take_no (h : Sep w (rsOb base g s :: Xs) av) (hn : nextE s ≤ s.next) :
    Calls Try.prog 22 #[.pointer (some ⟨g, 0, none⟩)] w fun e w' => e = .returned (.tuple #[.agg #[.int .i64 0, .slice none 0 0], .bool false]) ∧ Sep w' (rsOb base g s :: Xs) av ∧ (∀ b, av b → w'.heap[b]? = w.heap[b]?) ∧ Below base w w' := by
  obtain ⟨ok, h1, h2, h3, h4⟩ := h
  refine (rs_take base g s w ok h1 h2).mono ?_
  rintro e w' ⟨hO, hB, ⟨_, he, hS⟩ | ⟨hlt, _⟩⟩
  · have ht := Sep.kept (X := rsOb base g s) (X' := rsOb base g s) h2 h3 h4 hS hO
    exact ⟨he, ht.1.sub (fun k hk => .inl hk), ht.2, hB⟩
  · omega
theorem qs_take_yes (h : Sep w (rsOb base g s :: Xs) av) (hn : s.next < nextE s) :
    Calls Try.prog 22 #[.pointer (some ⟨g, 0, none⟩)] w fun e w' => ∃ v, e = .returned (.tuple #[.agg #[.int .i64 s.next, v], .bool true]) ∧ (Kd.int .u8).R 5 w' w.heap.size (fun _ => True) v (nextB s) ∧
      Sep w' (rsOb base g (nextS s) :: Xs) (fun k => av k ∨ (w.heap.size ≤ k ∧ k < w'.heap.size)) ∧ (∀ b, av b → w'.heap[b]? = w.heap[b]?) ∧ Below base w w' := by
  obtain ⟨ok, h1, h2, h3, h4⟩ := h
  refine (rs_take base g s w ok h1 h2).mono ?_
  rintro e w' ⟨hO, hB, ⟨hge, _⟩ | ⟨_, v, he, hR, hS⟩⟩
  · omega
  · have ht := Sep.kept (X := rsOb base g s) (X' := rsOb base g (nextS s)) h2 h3 h4 hS hO
    exact ⟨v, he, hR, ht.1, ht.2, hB⟩
/-- The reference's sender, seen. -/
theorem qs_cells (h : Sep w (rsOb base g s :: Xs) av) : ∃ A c, w.heap[g]? = some (.cells #[.slice A s.l.length c, .int .i64 s.base, .int .i64 s.next, .int .i64 s.far, .int .i64 s.limit] 50 (0, 0)) ∧ s.l.length ≤ c := by
  obtain ⟨ok, ⟨v, h1, _, h3, _⟩, _⟩ := h
  obtain ⟨A, c, rfl, hc, _⟩ := Kd.R_reads h3
  exact ⟨A, c, h1, hc⟩
theorem qs_again (h : Sep w (rsOb base g s :: Xs) av) : Sep (w.setCell ⟨g, 2, none⟩ (.int .i64 s.base)) (rsOb base g { s with next := s.base } :: Xs) av ∧ Below base w (w.setCell ⟨g, 2, none⟩ (.int .i64 s.base)) := by
  obtain ⟨ok, ⟨v, h1, h2, h3, h4⟩, k2, k3, k4⟩ := h
  have ht := Sep.kept (X := rsOb base g s) (X' := rsOb base g { s with next := s.base }) k2 k3 k4 (show RsAt base g { s with next := s.base } (w.setCell ⟨g, 2, none⟩ (.int .i64 s.base)) ok from
    ⟨v, set_cellsN 2 h1 rfl, h2, Kd.R_set h3 h1 u8_Es 2 _, ⟨Nat.le_refl _, Nat.le_trans h4.1 h4.2.1, h4.2.2⟩⟩) (Off.set w (p := ⟨g, 2, none⟩) h2.1 _)
  exact ⟨ht.1.sub (fun k hk => .inl hk), (Below.refl _ _).setCell (p := ⟨g, 2, none⟩) h2.2 _⟩
theorem qr_hear_no (off : Int) (A : Option Addr) (m c : Nat) (h : Sep w (rqOb base g r :: Xs) av) (hm : m ≤ 1000000000000) (hb : hearB r off m = true) :
    Calls Try.prog 24 #[.pointer (some ⟨g, 0, none⟩), .agg #[.int .i64 off, .slice A m c]] w fun e w' => e = .returned (.bool false) ∧ Below w.heap.size w w' := by
  obtain ⟨ok, h1, h2, h3, h4⟩ := h
  exact rq_hear_no base g r w ok off A m c h1 hm hb
theorem qr_hear_yes (off : Nat) (A : Option Addr) (c : Nat) (l b' : List Int) (h : Sep w (rqOb base g r :: Xs) av) (hbs : base ≤ w.heap.size) (hr : ∀ V : World, Below base w V → (Kd.int .u8).C V A l.length l) (hc : l.length ≤ c) (hl : ∀ b ∈ l, 0 ≤ b ∧ b ≤ 255) (hb : hearB r off l.length = false)
    (hh' : ({ r with b := b', n := r.n + l.length, G := fillG r.G off l } : Rc).half ∧ fillG r.G off l b'.length = none) :
    Calls Try.prog 24 #[.pointer (some ⟨g, 0, none⟩), .agg #[.int .i64 off, .slice A l.length c]] w fun e w' => e = .returned (.bool true) ∧ Sep w' (rqOb base g { r with b := b', n := r.n + l.length, G := fillG r.G off l } :: Xs) av ∧ (∀ b, av b → w'.heap[b]? = w.heap[b]?) ∧ Below base w w' := by
  obtain ⟨ok, h1, h2, h3, h4⟩ := h
  refine (rq_hear_yes base g r w (fun k => ok k ∨ w.heap.size ≤ k) off A c l b' (RqAt.mono h1 (fun k hk => .inl hk)) (fun k hk => .inr hk) hbs hr hc hl hb hh').mono ?_
  rintro e w' ⟨he, hS, hO, hB⟩
  have ht := Sep.turned (X := rqOb base g r) (X' := rqOb base g { r with b := b', n := r.n + l.length, G := fillG r.G off l }) h2 h3 h4 (show (rqOb base g { r with b := b', n := r.n + l.length, G := fillG r.G off l }).P w' (fun k => (ok k ∨ w.heap.size ≤ k) ∧ k < w'.heap.size) from RqAt.bound hS) (fun k hk => hk.1) (fun k hk => hk.2) hO
  exact ⟨he, ht.1, ht.2, hB⟩
theorem qr_read (most : Int) (h : Sep w (rqOb base g r :: Xs) av) (hbs : base ≤ w.heap.size) :
    Calls Try.prog 25 #[.pointer (some ⟨g, 0, none⟩), .int .i64 most] w fun e w' => ∃ v, e = .returned v ∧ (Kd.int .u8).R 5 w' w.heap.size (fun _ => True) v (readB r most) ∧ Sep w' (rqOb base g (readR r most) :: Xs) (fun k => av k ∨ (w.heap.size ≤ k ∧ k < w'.heap.size)) ∧ (∀ b, av b → w'.heap[b]? = w.heap[b]?) ∧ Below base w w' := by
  obtain ⟨ok, h1, h2, h3, h4⟩ := h
  refine (rq_read base g r w ok most h1 h2 hbs).mono ?_
  rintro e w' ⟨v, he, hR, hS, hO, hB⟩
  have ht := Sep.kept (X := rqOb base g r) (X' := rqOb base g (readR r most)) h2 h3 h4 hS hO
  exact ⟨v, he, hR, ht.1, ht.2, hB⟩
theorem qr_end (h : Sep w (rqOb base g r :: Xs) av) : Calls Try.prog 26 #[.pointer (some ⟨g, 0, none⟩)] w fun e w' => e = .returned (.int .i64 r.b.length) ∧ w = w' := by
  obtain ⟨ok, h1, h2, h3, h4⟩ := h
  exact rq_end base g r w ok h1
theorem qr_cells (h : Sep w (rqOb base g r :: Xs) av) : w.cell? ⟨g, 3, none⟩ = some (.int .i64 r.read) := by
  obtain ⟨ok, ⟨_, _, _, _, h1, _⟩, _⟩ := h
  exact cell_cellsN h1 3 (by simp)
end
/-! ### new ones -/
theorem qs_start {base : Nat} {w : World} {Xs : List Ob} {av : Nat → Prop} (h : Sep w Xs av) (hbs : base ≤ w.heap.size) :
    Sep (w.alloc (.cells #[.slice none 0 0, .int .i64 0, .int .i64 0, .int .i64 0, .int .i64 0] 50)) (rsOb base w.heap.size S0 :: Xs) av :=
  Sep.more h ((Below.refl _ _).alloc (Nat.le_refl _) _) ⟨fun k => k = w.heap.size, ⟨_, new_cellsN w _ _, ⟨rfl, hbs⟩, Kd.R_nil _ _ _ _ _, S0_fine⟩, fun k hk => by simp; omega⟩
theorem qr_start {base : Nat} {w : World} {Xs : List Ob} {av : Nat → Prop} (h : Sep w Xs av) (hbs : base ≤ w.heap.size) (win : Nat) (h1 : 1 ≤ win) (h2 : win ≤ 4096) :
    Sep (w.alloc (.cells #[.int .i64 win, .slice none 0 0, .slice none 0 0, .int .i64 0] 54)) (rqOb base w.heap.size (R0 win) :: Xs) av :=
  Sep.more h ((Below.refl _ _).alloc (Nat.le_refl _) _) ⟨fun k => k = w.heap.size, ⟨_, _, [], [], new_cellsN w _ _, ⟨rfl, hbs⟩, Kd.R_nil _ _ _ _ _, Kd.R_nil _ _ _ _ _, ⟨rfl, by simp, fun i => by simp [R0]⟩, by
    unfold Rc.half R0
    exact ⟨fun i hi => by simp at hi, by simp, by simp, h1, h2, (fun i c h => by cases h), by simp⟩, rfl⟩, fun k hk => by simp; omega⟩
end Go.Proofs.Ytgkcncdanhkkoaa.Fw
