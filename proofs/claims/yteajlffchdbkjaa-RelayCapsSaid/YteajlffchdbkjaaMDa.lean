/-
  relay: a relay with its reservations, its notary and its circuits, side by side in memory; what each call answers, plain. Conditions: as the theorems state them.
  relay: may it be a peer's; the time goes on; a new relay. Conditions: as the theorems state them.
  relay: Reserve. Conditions: as the theorems state them.
  relay: Connect, Forward. Conditions: as the theorems state them.
  relay: the invariant behind each call; plain. Conditions: as the theorems state them.
  slices.Collect of all reservations: a row of them by rising peers. Conditions: as the theorems state them.
  relay: State: all reservations, and all circuits. Conditions: as the theorems state them.
-/
import Derived.Test.YteajlffchdbkjaaMCb
import Derived.Test.YteajlffchdbkjaaMV
import Derived.Test.YteajlffchdbkjaaMRc
import Derived.RangeFuncWrites
namespace Go.Proofs.Yteajlffchdbkjaa.Re
open Go.RowKit Go.Maps Go.Shelf Go.Proofs.Yteajlffchdbkjaa.Rv Go.Proofs.Yteajlffchdbkjaa.Ci Go.Proofs.Yteajlffchdbkjaa.Sp Go.Proofs.YteajlffchdbkjaaW.PrintWords Go.Proofs.YteajlffchdbkjaaW.PrintLast Go.Proofs.YteajlffchdbkjaaW.PrintMore
set_option linter.unusedVariables false
set_option linter.unusedSimpArgs false
theorem Kp_off {ok : Nat → Prop} {W W' : World} (h : Kp ok W W') : Sp.Off ok W W' := ⟨h.2.2.2.1, h.2.2.2.2⟩
def relC (own : Int) (gN gR gC : Nat) (now : Int) : Array Value := #[.int .i64 own, .pointer (some ⟨gN, 0, none⟩), .pointer (some ⟨gR, 0, none⟩), .pointer (some ⟨gC, 0, none⟩), .int .i64 now]
def obS (r : Nat) (own : Int) (gN gR gC : Nat) (now : Int) : Ob where
  P := fun w ok => w.heap[r]? = some (.cells (relC own gN gR gC now) 77 (0, 0)) ∧ ok r
  step := fun h hk => ⟨(hk r h.2 (Array.getElem?_eq_some_iff.1 h.1).1).trans h.1, h.2⟩
def obR (g b n : Nat) (l : LimV) (L : List HeldP) (now : Int) : Ob where
  P := fun w ok => TabAt w g b n l L now ∧ ok g ∧ ok b
  step := fun h hk => ⟨⟨(hk _ h.2.1 h.1.lt.1).trans h.1.1, Nt.map_move h.1.2 (hk _ h.2.2 h.1.lt.2)⟩, h.2⟩
def obN (base g : Nat) (L : List Nt.Ent) : Ob where
  P := fun w ok => Nt.NotAt w base ok g L
  step := fun h hk => h.step hk
def obC (g : Nat) (l : LimV) (L G : List CirP) (last now : Int) : Ob where
  P := fun w ok => ∃ vl vg, CirAt w g vl vg l L G last now ∧ ∀ k, okC g vl vg k → ok k
  step := fun ⟨vl, vg, h1, h2⟩ hk => ⟨vl, vg, h1.step (fun k h3 h4 => hk k (h2 k h3) h4), h2⟩
/-- Turned as Sep.turn, with the object's blocks at hand; what is fresh and not the object's is told to be no object's. -/
theorem turn_core {w w1 : World} {X' : Ob} {Xs : List Ob} {av ex ok ok' : Nat → Prop} (h2 : ∀ k, ok k → k < w.heap.size) (h3 : ∀ k, av k → ¬ ok k) (h4 : Sep w Xs (fun k => av k ∨ ok k))
    (k1 : X'.P w1 ok') (k2 : ∀ k, ok' k → ok k ∨ w.heap.size ≤ k) (k3 : ∀ k, ok' k → k < w1.heap.size) (k4 : Sp.Off ok w w1) (k5 : ∀ k, ex k → w.heap.size ≤ k ∧ k < w1.heap.size ∧ ¬ ok' k) :
    Sep w1 (X' :: Xs) (fun k => av k ∨ ex k) ∧ ∀ b, av b → w1.heap[b]? = w.heap[b]? := by
  refine ⟨⟨ok', k1, k3, fun k hk e => ?_, ?_⟩, fun b hb => k4.2 b (h4.lt b (.inl hb)) (h3 b hb)⟩
  · rcases hk with hk | hk
    · rcases k2 k e with a | a
      · exact h3 k hk a
      · have := h4.lt k (.inl hk); omega
    · exact (k5 k hk).2.2 e
  · refine (Sep.off ok (av := av) (h4.sub (fun k hk => hk.imp id (fun a => a.1))) k4).sub (fun k hk => ?_)
    rcases hk with (a | a) | a
    · exact .inl a
    · exact .inr (.inr ⟨(k5 k a).1, (k5 k a).2.1⟩)
    · rcases k2 k a with b | b
      · exact .inr (.inl ⟨b, h2 k b⟩)
      · exact .inr (.inr ⟨b, k3 k a⟩)
/-! ### a relay -/
structure RelS where
  own : Int
  l : LimV
  R : List HeldP
  tR : Int
  C : List CirP
  G : List CirP
  last : Int
  tC : Int
  N : List Nt.Ent
  now : Int
def RelW (w : World) (base r gN gR bR nR gC : Nat) (s : RelS) (av : Nat → Prop) : Prop := Sep w [obS r s.own gN gR gC s.now, obR gR bR nR s.l s.R s.tR, obN base gN s.N, obC gC s.l s.C s.G s.last s.tC] av
/-- What stays: all blocks of av's; nothing is read or told. -/
def KpA (av : Nat → Prop) (W W' : World) : Prop := W'.os = W.os ∧ W'.tape = W.tape ∧ W'.output = W.output ∧ W.heap.size ≤ W'.heap.size ∧ ∀ k, av k → W'.heap[k]? = W.heap[k]?
theorem KpA.refl (av : Nat → Prop) (W : World) : KpA av W W := ⟨rfl, rfl, rfl, Nat.le_refl _, fun _ _ => rfl⟩
theorem KpA.trans {av av' : Nat → Prop} {A B C : World} (h : KpA av A B) (k : KpA av' B C) (hs : ∀ i, av i → av' i) : KpA av A C := ⟨k.1.trans h.1, k.2.1.trans h.2.1, k.2.2.1.trans h.2.2.1, Nat.le_trans h.2.2.2.1 k.2.2.2.1, fun i hi => (k.2.2.2.2 i (hs i hi)).trans (h.2.2.2.2 i hi)⟩
theorem KpA.below {av : Nat → Prop} {A B : World} (h : Below A.heap.size A B) (hs : ∀ i, av i → i < A.heap.size) : KpA av A B := ⟨h.os, h.tape, h.output, h.size, fun i hi => h.block i (hs i hi)⟩
theorem KpA.toBelow {av : Nat → Prop} {A B : World} (h : KpA av A B) {n : Nat} (hs : ∀ i, i < n → av i) (hn : n ≤ A.heap.size) : Below n A B := ⟨h.1, h.2.1, h.2.2.1, h.2.2.2.1, fun i hi => h.2.2.2.2 i (hs i hi)⟩
theorem RelW.sub {w : World} {base r gN gR bR nR gC : Nat} {s : RelS} {av av' : Nat → Prop} (h : RelW w base r gN gR bR nR gC s av) (hs : ∀ k, av' k → av k) : RelW w base r gN gR bR nR gC s av' := Sep.sub h hs
theorem RelW.step {w w1 : World} {base r gN gR bR nR gC : Nat} {s : RelS} {av : Nat → Prop} (h : RelW w base r gN gR bR nR gC s av) (hb : Below w.heap.size w w1) : RelW w1 base r gN gR bR nR gC s (fun k => av k ∨ (w.heap.size ≤ k ∧ k < w1.heap.size)) := Sep.step h hb
theorem RelW.lt {w : World} {base r gN gR bR nR gC : Nat} {s : RelS} {av : Nat → Prop} (h : RelW w base r gN gR bR nR gC s av) : ∀ k, av k → k < w.heap.size := Sep.lt h
theorem RelW.rel {w : World} {base r gN gR bR nR gC : Nat} {s : RelS} {av : Nat → Prop} (h : RelW w base r gN gR bR nR gC s av) : w.heap[r]? = some (.cells (relC s.own gN gR gC s.now) 77 (0, 0)) := by
  obtain ⟨ok, h1, _⟩ := Sep.head h
  exact h1
/-- The relay's own cells are no other object's. -/
theorem RelW.tail {w : World} {base r gN gR bR nR gC : Nat} {s : RelS} {av : Nat → Prop} (h : RelW w base r gN gR bR nR gC s av) : Sep w [obR gR bR nR s.l s.R s.tR, obN base gN s.N, obC gC s.l s.C s.G s.last s.tC] (fun k => av k ∨ k = r) := by
  obtain ⟨ok, h1, h2, h3, h4⟩ := h
  exact h4.sub (fun k hk => hk.imp id (fun e => by rw [e]; exact h1.2))
theorem RelW.back {w w1 : World} {base r gN gR bR nR gC nR' : Nat} {s s' : RelS} {av ex : Nat → Prop} (h : RelW w base r gN gR bR nR gC s av) (hk : w1.heap[r]? = w.heap[r]?) (ho : s'.own = s.own) (hn : s'.now = s.now)
    (ht : Sep w1 [obR gR bR nR' s'.l s'.R s'.tR, obN base gN s'.N, obC gC s'.l s'.C s'.G s'.last s'.tC] (fun k => (av k ∨ k = r) ∨ ex k)) (hex : ∀ k, ex k → k ≠ r) : RelW w1 base r gN gR bR nR' gC s' (fun k => av k ∨ ex k) := by
  have hr := h.rel
  obtain ⟨ok, h1, h2, h3, h4⟩ := h
  have hrl : r < w1.heap.size := ht.lt r (.inl (.inr rfl))
  refine ⟨fun k => k = r, ⟨by rw [ho, hn, hk]; exact hr, rfl⟩, fun k e => by rw [show k = r from e]; exact hrl, fun k hk e => ?_, ht.sub (fun k hk => ?_)⟩
  · have e : k = r := e
    rcases hk with hk | hk
    · exact h3 k hk (by rw [e]; exact h1.2)
    · exact hex k hk e
  · rcases hk with (hk | hk) | hk
    · exact .inl (.inl hk)
    · exact .inr hk
    · exact .inl (.inr hk)
/-! ### the invariant: k steps were done -/
structure RInv (k : Nat) (s : RelS) : Prop where
  own : 1 ≤ s.own ∧ s.own ≤ 2147483647
  may : mayL s.l = true
  ris : Ris s.R
  rlen : s.R.length ≤ k
  rok : ∀ q ∈ s.R, 1 ≤ q.1 ∧ q.1 ≤ 2147483647 ∧ q.1 ≠ s.own ∧ q.2.2 ≤ 1099511627776
  clen : s.G.length + s.C.length ≤ k
  last : 0 ≤ s.last ∧ s.last ≤ k
  cok : ∀ c ∈ s.C, okBytes c
  nlen : s.N.length ≤ k
  tR : s.tR ≤ s.now
  tC : s.tC ≤ s.now
  now : 0 ≤ s.now ∧ s.now ≤ 1099511627776
end Go.Proofs.Yteajlffchdbkjaa.Re
namespace Go.Proofs.Yteajlffchdbkjaa.Re
open Go.RowKit Go.Maps Go.Shelf Go.Proofs.Yteajlffchdbkjaa.Rv Go.Proofs.Yteajlffchdbkjaa.Ci Go.Proofs.Yteajlffchdbkjaa.Sp Go.Proofs.YteajlffchdbkjaaW.PrintWords Go.Proofs.YteajlffchdbkjaaW.PrintLast Go.Proofs.YteajlffchdbkjaaW.PrintMore
set_option linter.unusedVariables false
set_option linter.unusedSimpArgs false
attribute [local go_sem] Oper.semAt_some
def isPeer (n : Int) : Prop := 1 ≤ n ∧ n ≤ 2147483647
theorem rmay_yes (W : World) (n : Int) (h : isPeer n) : Calls Try.prog 24 #[.int .i64 n] W fun e w' => e = .returned (.bool true) ∧ W = w' := by
  have b1 : decide (n ≥ 1) = true := decide_eq_true h.1
  have b2 : decide (n ≤ 2147483647) = true := decide_eq_true h.2
  clear h
  go_enter Try.func24, Try.ntmps24
  go_wp2
  go_ret
  exact ⟨rfl, rfl⟩
theorem rmay_no (W : World) (n : Int) (h : ¬ isPeer n) : Calls Try.prog 24 #[.int .i64 n] W fun e w' => e = .returned (.bool false) ∧ W = w' := by
  by_cases h1 : n ≥ 1
  · have b1 : decide (n ≥ 1) = true := decide_eq_true h1
    have b2 : decide (n ≤ 2147483647) = false := decide_eq_false (fun h2 => h ⟨h1, h2⟩)
    clear h h1
    go_enter Try.func24, Try.ntmps24
    go_wp2
    go_ret
    exact ⟨rfl, rfl⟩
  · have b1 : decide (n ≥ 1) = false := decide_eq_false h1
    clear h h1
    go_enter Try.func24, Try.ntmps24
    go_wp2
    go_ret
    exact ⟨rfl, rfl⟩
theorem relC_cells {V : World} {r : Nat} {own : Int} {gN gR gC : Nat} {now : Int} (h : V.heap[r]? = some (.cells (relC own gN gR gC now) 77 (0, 0))) : V.cell? ⟨r, 0, none⟩ = some (.int .i64 own) ∧ V.cell? ⟨r, 1, none⟩ = some (.pointer (some ⟨gN, 0, none⟩)) ∧ V.cell? ⟨r, 2, none⟩ = some (.pointer (some ⟨gR, 0, none⟩)) ∧ V.cell? ⟨r, 3, none⟩ = some (.pointer (some ⟨gC, 0, none⟩)) ∧ V.cell? ⟨r, 4, none⟩ = some (.int .i64 now) :=
  ⟨cell_cellsN h 0 (by simp [relC]), cell_cellsN h 1 (by simp [relC]), cell_cellsN h 2 (by simp [relC]), cell_cellsN h 3 (by simp [relC]), cell_cellsN h 4 (by simp [relC])⟩
/-- on: the time goes on. -/
theorem ron_yes (W : World) (r : Nat) (own : Int) (gN gR gC : Nat) (now t : Int) (h : W.heap[r]? = some (.cells (relC own gN gR gC now) 77 (0, 0))) (h1 : now ≤ t) (h2 : t ≤ 1099511627776) :
    Calls Try.prog 26 #[.pointer (some ⟨r, 0, none⟩), .int .i64 t] W fun e w' => e = .returned (.bool true) ∧ W.setCell ⟨r, 4, none⟩ (.int .i64 t) = w' := by
  obtain ⟨c0, c1, c2, c3, c4⟩ := relC_cells h
  have f4 := frozen_cellsN h 4
  have b1 : decide (t < now) = false := decide_eq_false (by omega)
  have b2 : decide (t > 1099511627776) = false := decide_eq_false (by omega)
  clear h h1 h2
  go_enter Try.func26, Try.ntmps26
  go_wp2
  go_ret
  exact ⟨rfl, rfl⟩
theorem ron_no (W : World) (r : Nat) (own : Int) (gN gR gC : Nat) (now t : Int) (h : W.heap[r]? = some (.cells (relC own gN gR gC now) 77 (0, 0))) (h1 : t < now ∨ 1099511627776 < t) :
    Calls Try.prog 26 #[.pointer (some ⟨r, 0, none⟩), .int .i64 t] W fun e w' => e = .returned (.bool false) ∧ W = w' := by
  obtain ⟨c0, c1, c2, c3, c4⟩ := relC_cells h
  by_cases h2 : t < now
  · have b1 : decide (t < now) = true := decide_eq_true h2
    clear h h1 h2
    go_enter Try.func26, Try.ntmps26
    go_wp2
    go_ret
    exact ⟨rfl, rfl⟩
  · have b1 : decide (t < now) = false := decide_eq_false h2
    have b2 : decide (t > 1099511627776) = true := decide_eq_true (by omega)
    clear h h1 h2
    go_enter Try.func26, Try.ntmps26
    go_wp2
    go_ret
    exact ⟨rfl, rfl⟩
/-- The relay behind on. -/
theorem RelW.on {w : World} {base r gN gR bR nR gC : Nat} {s : RelS} {av : Nat → Prop} (h : RelW w base r gN gR bR nR gC s av) (t : Int) : RelW (w.setCell ⟨r, 4, none⟩ (.int .i64 t)) base r gN gR bR nR gC { s with now := t } av ∧ KpA av w (w.setCell ⟨r, 4, none⟩ (.int .i64 t)) := by
  have ht := Sep.turn (X' := obS r s.own gN gR gC t) (w1 := w.setCell ⟨r, 4, none⟩ (.int .i64 t)) h (fun ok h1 h2 => ⟨ok, ⟨set_cellsN 4 h1.1 rfl, h1.2⟩, fun k hk => .inl hk, fun k hk => by simp [World.setCell]; exact h2 k hk, Sp.Off.set w (p := ⟨r, 4, none⟩) h1.2 _⟩)
  exact ⟨ht.1, rfl, rfl, rfl, by simp [World.setCell], ht.2⟩
def newS (own : Int) (l : LimV) (N : List Nt.Ent) : RelS := ⟨own, l, [], 0, [], [], 0, 0, N, 0⟩
theorem newS_inv {own : Int} {l : LimV} (h : isPeer own) (hm : mayL l = true) : RInv 0 (newS own l []) :=
  ⟨h, hm, List.Pairwise.nil, Nat.le_refl _, (fun q hq => by cases hq), Nat.le_refl _, ⟨Int.le_refl _, by simp [newS]⟩, (fun c hc => by cases hc), Nat.le_refl _, Int.le_refl _, Int.le_refl _, ⟨Int.le_refl _, by simp [newS]⟩⟩
theorem grown_below {A B : World} (h : A.grownBy B none) : Below A.heap.size A B := ⟨h.os, h.tape, h.output, h.size, fun k hk => h.block k hk (by simp)⟩
set_option maxRecDepth 100000 in
set_option maxHeartbeats 2000000 in
theorem rnew_bad (W : World) (own a b c d e f : Int) (gN : Nat) (h : ¬ (mayL (a, b, c, d, e, f) = true ∧ isPeer own)) : Calls Try.prog 11 #[.int .i64 own, .agg #[.int .i64 a, .int .i64 b, .int .i64 c, .int .i64 d, .int .i64 e, .int .i64 f], .pointer (some ⟨gN, 0, none⟩)] W fun en w' => en = .returned (.tuple #[.pointer none, .int .i64 1]) ∧ Below W.heap.size W w' := by
  obtain ⟨X, hX⟩ : ∃ X, W.alloc (.cells #[.int .i64 a, .int .i64 b, .int .i64 c, .int .i64 d, .int .i64 e, .int .i64 f] 23) = X := ⟨_, rfl⟩
  have hb : Below W.heap.size W X := by rw [← hX]; exact (Below.refl _ _).alloc (Nat.le_refl _) _
  have hc := new_cellsN W 23 #[.int .i64 a, .int .i64 b, .int .i64 c, .int .i64 d, .int .i64 e, .int .i64 f]
  rw [hX] at hc
  have c0 := cell_cellsN hc 0 (by simp)
  have c1 := cell_cellsN hc 1 (by simp)
  have c2 := cell_cellsN hc 2 (by simp)
  have c3 := cell_cellsN hc 3 (by simp)
  have c4 := cell_cellsN hc 4 (by simp)
  have c5 := cell_cellsN hc 5 (by simp)
  simp only [List.getElem_toArray, List.getElem_cons_zero, List.getElem_cons_succ] at c0 c1 c2 c3 c4 c5
  have HB := Lib.hid hb
  clear hb hc
  by_cases hm : mayL (a, b, c, d, e, f) = true
  · have KP := Lib.hid (fun V => rmay_no V own (fun e => h ⟨hm, e⟩))
    have K := Lib.hid (Rv.new_calls X a b c d e f hm)
    clear h hm
    go_enter Try.func11, Try.ntmps11
    go_wp2_with (first
      | (go_at_call 23; refine K.out.mono ?_; rintro en w2 ⟨gR, bR, rfl, _, _, _, hg2⟩; have HG := Lib.hid hg2; clear hg2)
      | (go_at_call 24; (with_reducible refine (KP.out _).mono ?_); rintro e w1 ⟨rfl, rfl⟩))
    go_ret2
    exact ⟨rfl, HB.out.trans ((grown_below HG.out).mono HB.out.size)⟩
  · have K := Lib.hid (Rv.new_bad X a b c d e f (by simpa using hm))
    clear h hm
    go_enter Try.func11, Try.ntmps11
    go_wp2_with (go_at_call 23; refine K.out.mono ?_; rintro en w2 ⟨rfl, hg2⟩; have HG := Lib.hid hg2; clear hg2)
    go_ret2
    exact ⟨rfl, HB.out.trans ((grown_below HG.out).mono HB.out.size)⟩
set_option maxRecDepth 100000 in
set_option maxHeartbeats 2000000 in
theorem rnew_calls (W : World) (base : Nat) (own a b c d e f : Int) (gN : Nat) (N : List Nt.Ent) (av : Nat → Prop) (hN : Nt.OneAt W base gN N av) (h : mayL (a, b, c, d, e, f) = true) (hp : isPeer own) : Calls Try.prog 11 #[.int .i64 own, .agg #[.int .i64 a, .int .i64 b, .int .i64 c, .int .i64 d, .int .i64 e, .int .i64 f], .pointer (some ⟨gN, 0, none⟩)] W fun en w' =>
    ∃ r gR bR gC, en = .returned (.tuple #[.pointer (some ⟨r, 0, none⟩), .int .i64 0]) ∧ RelW w' base r gN gR bR 0 gC (newS own (a, b, c, d, e, f) N) av ∧ Below W.heap.size W w' ∧ W.heap.size ≤ r := by
  obtain ⟨X, hX⟩ : ∃ X, W.alloc (.cells #[.int .i64 a, .int .i64 b, .int .i64 c, .int .i64 d, .int .i64 e, .int .i64 f] 23) = X := ⟨_, rfl⟩
  have hb : Below W.heap.size W X := by rw [← hX]; exact (Below.refl _ _).alloc (Nat.le_refl _) _
  have hc := new_cellsN W 23 #[.int .i64 a, .int .i64 b, .int .i64 c, .int .i64 d, .int .i64 e, .int .i64 f]
  rw [hX] at hc
  have hlt := (Array.getElem?_eq_some_iff.1 hc).1
  have HC := Lib.hid (fun (V : World) (hV : Below X.heap.size X V) => (hV.block W.heap.size hlt).trans hc)
  have c0 := cell_cellsN hc 0 (by simp)
  have c1 := cell_cellsN hc 1 (by simp)
  have c2 := cell_cellsN hc 2 (by simp)
  have c3 := cell_cellsN hc 3 (by simp)
  have c4 := cell_cellsN hc 4 (by simp)
  have c5 := cell_cellsN hc 5 (by simp)
  simp only [List.getElem_toArray, List.getElem_cons_zero, List.getElem_cons_succ] at c0 c1 c2 c3 c4 c5
  have HB := Lib.hid hb
  have KP := Lib.hid (fun V => rmay_yes V own hp)
  have K := Lib.hid (Rv.new_calls X a b c d e f h)
  have KC := Lib.hid (fun V => cnew_calls V a b c d e f h)
  have HN := Lib.hid hN
  clear h hb hc hlt hp hN
  go_enter Try.func11, Try.ntmps11
  go_upto_region 4 with (first
    | (go_at_call 23; refine K.out.mono ?_; rintro en w2 ⟨gR, bR, rfl, hT, hg1, hb1, hg2⟩; have HG := Lib.hid hg2; have HT := Lib.hid hT; have HT2 := Lib.hid (And.intro hg1 hb1); clear hg2 hT hg1 hb1)
    | (go_at_call 24; (with_reducible refine (KP.out _).mono ?_); rintro e w1 ⟨rfl, rfl⟩))
  clear c0 c1 c2 c3 c4 c5 hX
  have hc := HC.out w2 (grown_below HG.out)
  have c0 := cell_cellsN hc 0 (by simp)
  have c1 := cell_cellsN hc 1 (by simp)
  have c2 := cell_cellsN hc 2 (by simp)
  have c3 := cell_cellsN hc 3 (by simp)
  have c4 := cell_cellsN hc 4 (by simp)
  have c5 := cell_cellsN hc 5 (by simp)
  simp only [List.getElem_toArray, List.getElem_cons_zero, List.getElem_cons_succ] at c0 c1 c2 c3 c4 c5
  clear hc
  go_wp2_with (go_at_call 25; refine (KC.out _).mono ?_; rintro en w3 ⟨gC, rfl, hC, hgC, hb3⟩; have HC3 := Lib.hid hC; have HB3 := Lib.hid (And.intro hgC hb3); clear hC hgC hb3)
  go_ret2
  obtain ⟨ok, hn1, hn2, hn3⟩ := HN.out
  have hbX := HB.out
  have hb2 : Below W.heap.size W w2 := hbX.trans ((grown_below HG.out).mono hbX.size)
  have hb3 : Below W.heap.size W w3 := hb2.trans (HB3.out.2.mono hb2.size)
  obtain ⟨w4, hw4⟩ : ∃ w4, w3.alloc (.cells (relC own gN gR gC 0) 77) = w4 := ⟨_, rfl⟩
  have hb34 : Below w3.heap.size w3 w4 := by rw [← hw4]; exact (Below.refl _ _).alloc (Nat.le_refl _) _
  have hb4 : Below W.heap.size W w4 := hb3.trans (hb34.mono hb3.size)
  have hr4 : w4.heap[w3.heap.size]? = some (.cells (relC own gN gR gC 0) 77 (0, 0)) := by rw [← hw4]; exact new_cellsN w3 _ _
  have hs4 : w4.heap.size = w3.heap.size + 1 := by rw [← hw4]; simp
  have hTl := HT.out.lt
  have hT3 := tab_kept HT.out HB3.out.2
  have hT4 := tab_kept hT3 hb34
  have hC4 := HC3.out.below hb34
  have hTne := HT.out.ne
  have hX1 := hbX.size
  have h23 := HB3.out.2.size
  have h12 := HG.out.size
  have hgC := HB3.out.1
  have hgR := HT2.out
  have hcl := HC3.out.lt gC (.inl rfl)
  have hN4 : Sep w4 [obN base gN N] av := ⟨ok, hn1.step (fun k _ hk => hb4.block k hk), fun k hk => Nat.lt_of_lt_of_le (hn2 k hk) hb4.size, fun k hk => (hn3 k hk).2, fun k hk => by
    rcases hk with hk | hk
    · exact Nat.lt_of_lt_of_le (hn3 k hk).1 hb4.size
    · exact Nat.lt_of_lt_of_le (hn2 k hk) hb4.size⟩
  suffices hfin : RelW w4 base w3.heap.size gN gR bR 0 gC (newS own (a, b, c, d, e, f) N) av by
    subst hw4
    exact ⟨w3.heap.size, gR, bR, gC, rfl, hfin, hb4, hb3.size⟩
  have hal : ∀ k, av k ∨ ok k → k < W.heap.size := fun k hk => hk.elim (fun e => (hn3 k e).1) (hn2 k)
  refine ⟨fun k => k = w3.heap.size, ⟨hr4, rfl⟩, fun k e => by rw [show k = w3.heap.size from e]; omega, fun k hk e => ?_, ?_⟩
  · have := hal k (.inl hk); have e : k = w3.heap.size := e; have := hb3.size; omega
  refine ⟨fun k => k = gR ∨ k = bR, ⟨hT4, .inl rfl, .inr rfl⟩, fun k e => ?_, fun k hk e => ?_, ?_⟩
  · rcases e with rfl | rfl <;> omega
  · rcases hk with hk | hk
    · have := hal k (.inl hk); rcases e with rfl | rfl <;> omega
    · have hk : k = w3.heap.size := hk; rcases e with rfl | rfl <;> omega
  refine ⟨ok, hn1.step (fun k _ hk => hb4.block k hk), fun k hk => Nat.lt_of_lt_of_le (hn2 k hk) hb4.size, fun k hk e => ?_, ?_⟩
  · have := hn2 k e
    rcases hk with (hk | hk) | hk
    · exact (hn3 k hk).2 e
    · have hk : k = w3.heap.size := hk; have := hb3.size; omega
    · rcases hk with rfl | rfl <;> omega
  refine ⟨fun k => k = gC, ⟨_, _, hC4, fun k hk => by rcases hk with e | e | e; exact e; cases e; cases e⟩, fun k e => ?_, fun k hk e => ?_, fun k hk => ?_⟩
  · have e : k = gC := e; omega
  · have e : k = gC := e
    rcases hk with ((hk | hk) | hk) | hk
    · have := hal k (.inl hk); omega
    · have hk : k = w3.heap.size := hk; omega
    · rcases hk with rfl | rfl <;> omega
    · have := hal k (.inr hk); omega
  · rcases hk with (((hk | hk) | hk) | hk) | hk
    · have := hal k (.inl hk); have := hb4.size; omega
    · have hk : k = w3.heap.size := hk; omega
    · rcases hk with rfl | rfl <;> omega
    · have := hal k (.inr hk); have := hb4.size; omega
    · have hk : k = gC := hk; omega
end Go.Proofs.Yteajlffchdbkjaa.Re
namespace Go.Proofs.Yteajlffchdbkjaa.Re
open Go.RowKit Go.Maps Go.Shelf Go.Proofs.Yteajlffchdbkjaa.Rv Go.Proofs.Yteajlffchdbkjaa.Ci Go.Proofs.Yteajlffchdbkjaa.Sp Go.Proofs.YteajlffchdbkjaaW.PrintWords Go.Proofs.YteajlffchdbkjaaW.PrintLast Go.Proofs.YteajlffchdbkjaaW.PrintMore
set_option linter.unusedVariables false
set_option linter.unusedSimpArgs false
attribute [local go_sem] Oper.semAt_some
def MakePost (w : World) (base gN : Nat) (N : List Nt.Ent) (X Y : Ob) (av : Nat → Prop) (own p u : Int) (e : Ending) (w' : World) : Prop :=
  ∃ v sz, e = .returned (.tuple #[v, .int .i64 0]) ∧ (Kd.int .u8).R 5 w' sz (fun k => sz ≤ k ∧ k < w'.heap.size) v (By.vouchI own p u (Nt.mintF N own (By.textL [own, p, u])).1) ∧ w.heap.size ≤ sz ∧ Sep w' [X, obN base gN (Nt.mintF N own (By.textL [own, p, u])).2.2, Y] (fun k => av k ∨ (sz ≤ k ∧ k < w'.heap.size)) ∧ KpA av w w'
theorem make_sep {w : World} {base gN : Nat} {N : List Nt.Ent} {X Y : Ob} {av : Nat → Prop} (h : Sep w [X, obN base gN N, Y] av) (hL : N.length ≤ 100000) {own p u : Int} (hm : By.mayF own p u = true) :
    Calls Try.prog 28 #[.pointer (some ⟨gN, 0, none⟩), .int .i64 own, .int .i64 p, .int .i64 u] w (MakePost w base gN N X Y av own p u) := by
  obtain ⟨ok, h1, hlt, h3, h4⟩ := h.swap
  have hb : base ≤ w.heap.size := by
    obtain ⟨B, v, D, a1, ⟨a2, a3, a4, a5⟩, _⟩ := h1
    exact Nat.le_of_lt (Nat.lt_of_le_of_lt a4 (Array.getElem?_eq_some_iff.1 a1).1)
  have hone : Nt.OneAt w base gN N (fun k => k < w.heap.size ∧ ¬ ok k) := ⟨ok, h1, hlt, fun k hk => hk⟩
  refine (By.make_yes w base gN N _ own p u hone hb hL hm).mono ?_
  rintro e w' ⟨v, sz, rfl, hR, hsz, ⟨ok', k1, k2, k3⟩, hbl, hkp⟩
  have ht := turn_core (X' := obN base gN (Nt.mintF N own (By.textL [own, p, u])).2.2) (w1 := w') (ex := fun k => sz ≤ k ∧ k < w'.heap.size) hlt h3 h4 k1 (fun k hk => by
    by_cases h5 : ok k
    · exact .inl h5
    · right
      rcases Nat.lt_or_ge k w.heap.size with h6 | h6
      · exact absurd hk (k3 k (.inl ⟨h6, h5⟩)).2
      · exact h6) k2 ⟨hbl.size, fun b hb' hn => hkp b ⟨hb', hn⟩⟩ (fun k hk => ⟨Nat.le_trans hsz hk.1, hk.2, (k3 k (.inr hk)).2⟩)
  exact ⟨v, sz, rfl, hR, hsz, ht.1.swap, hbl.os, hbl.tape, hbl.output, hbl.size, ht.2⟩
/-! ### Reserve -/
def resBad (s : RelS) (t p host : Int) : Prop := p = s.own ∨ ¬ isPeer p ∨ host = 0 ∨ t < s.now ∨ 1099511627776 < t
set_option maxRecDepth 100000 in
set_option maxHeartbeats 2000000 in
theorem rres_bad (W : World) (base r gN gR bR nR gC : Nat) (s : RelS) (av : Nat → Prop) (t p host : Int) (h : RelW W base r gN gR bR nR gC s av) (hb : resBad s t p host) :
    Calls Try.prog 12 #[.pointer (some ⟨r, 0, none⟩), .int .i64 t, .int .i64 p, .int .u32 host] W fun e w' => e = .returned (.tuple #[.int .i64 0, .slice none 0 0, .int .i64 1]) ∧ W = w' := by
  have hr := h.rel
  obtain ⟨c0, c1, c2, c3, c4⟩ := relC_cells hr
  have KN := Lib.hid (fun hh => ron_no W r _ gN gR gC _ t hr hh)
  have KY := Lib.hid (fun hh => rmay_yes W p hh)
  have KX := Lib.hid (fun hh => rmay_no W p hh)
  clear h hr
  by_cases h1 : p = s.own
  · have b1 : (p == s.own) = true := by simpa using h1
    clear hb h1
    go_enter Try.func12, Try.ntmps12
    go_wp2
    refine bodyPost_ret (v := .tuple #[.int .i64 0, .slice none 0 0, .int .i64 1]) (by simp [results, Try.results12, go_sem]) rfl ⟨rfl, rfl⟩
  · have b1 : (p == s.own) = false := by simpa using h1
    by_cases h2 : isPeer p
    · have K2 := Lib.hid (KY.out h2)
      by_cases h3 : host = 0
      · have b3 : (host == 0) = true := by simpa using h3
        clear hb h1 h2 h3
        go_enter Try.func12, Try.ntmps12
        go_wp2_with (go_at_call 24; refine K2.out.mono ?_; rintro e w1 ⟨rfl, rfl⟩)
        refine bodyPost_ret (v := .tuple #[.int .i64 0, .slice none 0 0, .int .i64 1]) (by simp [results, Try.results12, go_sem]) rfl ⟨rfl, rfl⟩
      · have b3 : (host == 0) = false := by simpa using h3
        have K3 := Lib.hid (KN.out (by rcases hb with e | e | e | e | e; exact absurd e h1; exact absurd h2 e; exact absurd e h3; exact .inl e; exact .inr e))
        clear hb h1 h2 h3
        go_enter Try.func12, Try.ntmps12
        go_wp2_with (first
          | (go_at_call 24; refine K2.out.mono ?_; rintro e w1 ⟨rfl, rfl⟩)
          | (go_at_call 26; refine K3.out.mono ?_; rintro e w1 ⟨rfl, rfl⟩))
        refine bodyPost_ret (v := .tuple #[.int .i64 0, .slice none 0 0, .int .i64 1]) (by simp [results, Try.results12, go_sem]) rfl ⟨rfl, rfl⟩
    · have K2 := Lib.hid (KX.out h2)
      clear hb h1 h2
      go_enter Try.func12, Try.ntmps12
      go_wp2_with (go_at_call 24; refine K2.out.mono ?_; rintro e w1 ⟨rfl, rfl⟩)
      refine bodyPost_ret (v := .tuple #[.int .i64 0, .slice none 0 0, .int .i64 1]) (by simp [results, Try.results12, go_sem]) rfl ⟨rfl, rfl⟩
def ResvPost (w : World) (gR bR nR : Nat) (l : LimV) (R : List HeldP) (X Y : Ob) (av : Nat → Prop) (t p host : Int) (e : Ending) (w' : World) : Prop :=
  ∃ n', n' ≤ nR + 1 ∧ e = .returned (.tuple #[.int .i64 (resG l (overL R t) t p host).1, .int .i64 (resG l (overL R t) t p host).2.1]) ∧ Sep w' [obR gR bR n' l (resG l (overL R t) t p host).2.2 t, X, Y] av ∧ KpA av w w'
theorem touch_turn {w w' : World} {gR bR nR n' : Nat} {l : LimV} {R R' : List HeldP} {tR t' : Int} {Xs : List Ob} {av : Nat → Prop} (h : Sep w (obR gR bR nR l R tR :: Xs) av) (hT' : TabAt w' gR bR n' l R' t') (ht : Rv.Touch gR bR w w') :
    Sep w' (obR gR bR n' l R' t' :: Xs) av ∧ KpA av w w' := by
  have := Sep.turn (X' := obR gR bR n' l R' t') (w1 := w') h (fun ok h1 h2 => ⟨ok, ⟨hT', h1.2⟩, fun k hk => .inl hk, fun k hk => Nat.lt_of_lt_of_le (h2 k hk) ht.2.2.2.1, ⟨ht.2.2.2.1, fun i hi hn => ht.2.2.2.2 i hi (fun e => hn (by rw [e]; exact h1.2.1)) (fun e => hn (by rw [e]; exact h1.2.2))⟩⟩)
  exact ⟨this.1, ht.1, ht.2.1, ht.2.2.1, ht.2.2.2.1, this.2⟩
theorem resv_sep {w : World} {gR bR nR : Nat} {l : LimV} {R : List HeldP} {tR : Int} {X Y : Ob} {av : Nat → Prop} (h : Sep w [obR gR bR nR l R tR, X, Y] av) {t p host : Int} (hok : okRes tR t p host) (hr : Ris R) (hn : nR ≤ 1000000) (hl : R.length ≤ 1000000) (hlife : 0 ≤ l.2.2.2.1 ∧ l.2.2.2.1 ≤ 1099511627776) (ht0 : 0 ≤ t) :
    Calls Try.prog 27 #[.pointer (some ⟨gR, 0, none⟩), .int .i64 t, .int .i64 p, .int .u32 host] w (ResvPost w gR bR nR l R X Y av t p host) := by
  have hT := (Sep.head h)
  obtain ⟨_, hT, _⟩ := hT
  refine (res_calls w gR bR nR l R tR t p host hT hok hr hn hl hlife (by omega)).mono ?_
  rintro e w' ⟨n', hn', rfl, hT', ht⟩
  have h2 := touch_turn h hT' ht
  exact ⟨n', hn', rfl, h2.1, h2.2⟩
def ResF (s : RelS) (t p host : Int) : Int × Int × RelS :=
  if (resG s.l (overL s.R t) t p host).2.1 = 0 then ((resG s.l (overL s.R t) t p host).1, 0, { s with now := t, R := (resG s.l (overL s.R t) t p host).2.2, tR := t, N := (Nt.mintF s.N s.own (By.textL [s.own, p, (resG s.l (overL s.R t) t p host).1])).2.2 })
  else (0, (resG s.l (overL s.R t) t p host).2.1, { s with now := t, R := (resG s.l (overL s.R t) t p host).2.2, tR := t })
def resTag (s : RelS) (t p host : Int) : Int := (Nt.mintF s.N s.own (By.textL [s.own, p, (resG s.l (overL s.R t) t p host).1])).1
def ResPost (W : World) (base r gN gR bR nR gC : Nat) (s : RelS) (av : Nat → Prop) (t p host : Int) (e : Ending) (w' : World) : Prop :=
  ∃ v sz n', n' ≤ nR + 1 ∧ e = .returned (.tuple #[.int .i64 (ResF s t p host).1, v, .int .i64 (ResF s t p host).2.1]) ∧ ((ResF s t p host).2.1 = 0 → (Kd.int .u8).R 5 w' sz (fun k => sz ≤ k ∧ k < w'.heap.size) v (By.vouchI s.own p (ResF s t p host).1 (resTag s t p host))) ∧ W.heap.size ≤ sz ∧
    RelW w' base r gN gR bR n' gC (ResF s t p host).2.2 (fun k => av k ∨ (sz ≤ k ∧ k < w'.heap.size)) ∧ KpA av W w'
theorem resG_until {l : LimV} {L : List HeldP} {t p host : Int} (h : (resG l L t p host).2.1 = 0) : (resG l L t p host).1 = capT (t + l.2.2.2.1) := by
  unfold resG at h ⊢
  split at h
  · cases h
  · split at h
    · cases h
    · rw [if_neg (by assumption), if_neg (by assumption)]
set_option maxRecDepth 100000 in
set_option maxHeartbeats 4000000 in
theorem rres_calls (W : World) (base r gN gR bR nR gC k : Nat) (s : RelS) (av : Nat → Prop) (t p host : Int) (h : RelW W base r gN gR bR nR gC s av) (hi : RInv k s) (hk : k ≤ 10000) (hn : nR ≤ k) (hb : ¬ resBad s t p host) :
    Calls Try.prog 12 #[.pointer (some ⟨r, 0, none⟩), .int .i64 t, .int .i64 p, .int .u32 host] W (ResPost W base r gN gR bR nR gC s av t p host) := by
  have hp1 : p ≠ s.own := fun e => hb (.inl e)
  have hp2 : isPeer p := Classical.byContradiction (fun e => hb (.inr (.inl e)))
  have hp3 : host ≠ 0 := fun e => hb (.inr (.inr (.inl e)))
  have hp4 : s.now ≤ t := by rcases Int.lt_or_le t s.now with e | e; exact absurd (.inr (.inr (.inr (.inl e)))) hb; exact e
  have hp5 : t ≤ 1099511627776 := by rcases Int.lt_or_le 1099511627776 t with e | e; exact absurd (.inr (.inr (.inr (.inr e)))) hb; exact e
  have hr := h.rel
  obtain ⟨c0, c1, c2, c3, c4⟩ := relC_cells hr
  have KO := Lib.hid (ron_yes W r _ gN gR gC _ t hr hp4 hp5)
  have KM := Lib.hid (rmay_yes W p hp2)
  obtain ⟨W1, hW1⟩ : ∃ X, W.setCell ⟨r, 4, none⟩ (.int .i64 t) = X := ⟨_, rfl⟩
  have h1 := h.on t
  rw [hW1] at h1 KO
  have hml := (mayL_iff s.l).1 hi.may
  have KR := Lib.hid (resv_sep h1.1.tail (t := t) (p := p) (host := host) ⟨hp2.1, hp2.2, hp3, Int.le_trans hi.tR hp4, hp5⟩ hi.ris (by omega) (Nat.le_trans hi.rlen (by omega)) (show 0 ≤ s.l.2.2.2.1 ∧ s.l.2.2.2.1 ≤ 1099511627776 by omega) (by have := hi.now; omega))
  have HR1 := Lib.hid h1
  have HI := Lib.hid hi
  have HP := Lib.hid (show isPeer p ∧ p ≠ s.own ∧ 0 ≤ t ∧ t ≤ 1099511627776 from ⟨hp2, hp1, by have := hi.now; omega, hp5⟩)
  have b1 : (p == s.own) = false := by simpa using hp1
  have b3 : (host == 0) = false := by simpa using hp3
  have hr1 := h1.1.rel
  have e2 := (relC_cells hr1).2.2.1
  have HREL := Lib.hid hr1
  have HML := Lib.hid hml
  clear h hi hb hp1 hp2 hp3 hp4 hp5 hr h1 hW1 hml hr1
  have hN : s.N.length ≤ 100000 := Nat.le_trans HI.out.nlen (by omega)
  have HNL := Lib.hid hN
  clear hN
  obtain ⟨⟨u, code, R'⟩, hq⟩ : ∃ q, resG s.l (overL s.R t) t p host = q := ⟨_, rfl⟩
  by_cases hz : code = 0
  · have hu := resG_until (l := s.l) (L := overL s.R t) (t := t) (p := p) (host := host) (by rw [hq]; exact hz)
    rw [hq] at hu
    have hF : ResF s t p host = (u, 0, { s with now := t, R := R', tR := t, N := (Nt.mintF s.N s.own (By.textL [s.own, p, u])).2.2 }) := by
      unfold ResF
      rw [hq, if_pos hz]
    have hT : resTag s t p host = (Nt.mintF s.N s.own (By.textL [s.own, p, u])).1 := by unfold resTag; rw [hq]
    have hmay : By.mayF s.own p u = true := by
      rw [By.mayF_iff]
      have h1 := HP.out
      have h2 := HI.out.own
      have h3 := HML.out.2.2.2.1
      have h4 : u = capT (t + s.l.2.2.2.1) := hu
      unfold capT at h4
      refine ⟨h2.1, h2.2, h1.1.1, h1.1.2, fun e => h1.2.1 e.symm, ?_, ?_⟩ <;> split at h4 <;> omega
    have HF := Lib.hid hF
    have HT := Lib.hid hT
    have HMAY := Lib.hid hmay
    subst hz
    unfold ResvPost at KR
    rw [hq] at KR
    clear hF hT hmay hu hq
    go_enter Try.func12, Try.ntmps12
    go_upto_region 3 with (first
      | (go_at_call 24; refine KM.out.mono ?_; rintro e w1 ⟨rfl, rfl⟩)
      | (go_at_call 26; refine KO.out.mono ?_; rintro e w1 ⟨rfl, rfl⟩))
    go_upto_region 6 with (go_at_call 27; refine KR.out.mono ?_; rintro e w2 ⟨n', hn', rfl, hs2, hk2⟩; have HS2 := Lib.hid hs2; have HK2 := Lib.hid hk2; clear hs2 hk2)
    have HRL2 := Lib.hid ((HK2.out.2.2.2.2 r (.inr rfl)).trans HREL.out)
    obtain ⟨d0, d1, _, _, _⟩ := relC_cells HRL2.out
    clear c0 c1 c2 c3 c4 e2 KM KO KR
    refine wp_region_held_drew (S := fun w' => w'.cell? ⟨r, 1, none⟩ = some (.pointer (some ⟨gN, 0, none⟩)) ∧ w'.cell? ⟨r, 0, none⟩ = some (.int .i64 s.own)) (by kernel_rfl) ?_ (fun hHeld => ?_)
    · exact ⟨d1, d0⟩
    refine wpAnyH_take (i := 0) (v := ?_) rfl (by kernel_rfl) (by kernel_rfl) (by kernel_rfl) (fun _ _ _ h => h) (Or.inl ⟨by rfl, ?_⟩) (by assumption) ?_
    rotate_left
    · (intro w hSw; (try dsimp only at hSw); go_simp; try with_reducible rfl)
    try simp only [Act.put, List.setIfInBounds_toArray, List.set_cons_zero, List.set_cons_succ, List.getElem_toArray, List.getElem_cons_succ, List.getElem_cons_zero]
    refine wpAnyH_take (i := 1) (v := ?_) rfl (by kernel_rfl) (by kernel_rfl) (by kernel_rfl) (fun _ _ _ h => h) (Or.inl ⟨by rfl, ?_⟩) (by assumption) ?_
    rotate_left
    · (intro w hSw; (try dsimp only at hSw); go_simp; try with_reducible rfl)
    try simp only [Act.put, List.setIfInBounds_toArray, List.set_cons_zero, List.set_cons_succ, List.getElem_toArray, List.getElem_cons_succ, List.getElem_cons_zero]
    refine wpAnyH_take (i := 2) (v := ?_) rfl (by kernel_rfl) (by kernel_rfl) (by kernel_rfl) (fun _ _ _ h => h) (Or.inl ⟨by rfl, ?_⟩) (by assumption) ?_
    rotate_left
    · (intro w hSw; (try dsimp only at hSw); go_simp; try with_reducible rfl)
    try simp only [Act.put, List.setIfInBounds_toArray, List.set_cons_zero, List.set_cons_succ, List.getElem_toArray, List.getElem_cons_succ, List.getElem_cons_zero]
    refine wpAnyH_take (i := 3) (v := ?_) rfl (by kernel_rfl) (by kernel_rfl) (by kernel_rfl) (fun _ _ _ h => h) (Or.inl ⟨by rfl, ?_⟩) (by assumption) ?_
    rotate_left
    · (intro w hSw; (try dsimp only at hSw); go_simp; try with_reducible rfl)
    try simp only [Act.put, List.setIfInBounds_toArray, List.set_cons_zero, List.set_cons_succ, List.getElem_toArray, List.getElem_cons_succ, List.getElem_cons_zero]
    refine wpAnyH_take (i := 4) (v := ?_) rfl (by kernel_rfl) (by kernel_rfl) (by kernel_rfl) (fun _ _ _ h => h) (Or.inl ⟨by rfl, ?_⟩) (by assumption) ?_
    rotate_left
    · (intro w hSw; (try dsimp only at hSw); go_simp; try with_reducible rfl)
    try simp only [Act.put, List.setIfInBounds_toArray, List.set_cons_zero, List.set_cons_succ, List.getElem_toArray, List.getElem_cons_succ, List.getElem_cons_zero]
    refine wpAnyH_take (i := 5) (v := ?_) rfl (by kernel_rfl) (by kernel_rfl) (by kernel_rfl) (fun _ _ _ h => h) (Or.inl ⟨by rfl, ?_⟩) (by assumption) ?_
    rotate_left
    · (intro w hSw; (try dsimp only at hSw); go_simp; try with_reducible rfl)
    try simp only [Act.put, List.setIfInBounds_toArray, List.set_cons_zero, List.set_cons_succ, List.getElem_toArray, List.getElem_cons_succ, List.getElem_cons_zero]
    refine wpAnyH_take (i := 6) (v := ?_) rfl (by kernel_rfl) (by kernel_rfl) (by kernel_rfl) (fun _ _ _ h => h) (Or.inl ⟨by rfl, ?_⟩) (by assumption) ?_
    rotate_left
    · (intro w hSw; (try dsimp only at hSw); go_simp; try with_reducible rfl)
    try simp only [Act.put, List.setIfInBounds_toArray, List.set_cons_zero, List.set_cons_succ, List.getElem_toArray, List.getElem_cons_succ, List.getElem_cons_zero]
    refine wpAnyH_take (i := 7) (v := ?_) rfl (by kernel_rfl) (by kernel_rfl) (by kernel_rfl) (fun _ _ _ h => h) (Or.inl ⟨by rfl, ?_⟩) (by assumption) ?_
    rotate_left
    · (intro w hSw; (try dsimp only at hSw); go_simp; try with_reducible rfl)
    try simp only [Act.put, List.setIfInBounds_toArray, List.set_cons_zero, List.set_cons_succ, List.getElem_toArray, List.getElem_cons_succ, List.getElem_cons_zero]
    refine wpAnyH_take (i := 8) (v := ?_) rfl (by kernel_rfl) (by kernel_rfl) (by kernel_rfl) (fun _ _ _ h => h) (Or.inl ⟨by rfl, ?_⟩) (by assumption) ?_
    rotate_left
    · (intro w hSw; (try dsimp only at hSw); go_simp; try with_reducible rfl)
    try simp only [Act.put, List.setIfInBounds_toArray, List.set_cons_zero, List.set_cons_succ, List.getElem_toArray, List.getElem_cons_succ, List.getElem_cons_zero]
    refine wpAnyH_take (i := 9) (v := ?_) rfl (by kernel_rfl) (by kernel_rfl) (by kernel_rfl) (fun _ _ _ h => h) (Or.inl ⟨by rfl, ?_⟩) (by assumption) ?_
    rotate_left
    · (intro w hSw; (try dsimp only at hSw); go_simp; try with_reducible rfl)
    try simp only [Act.put, List.setIfInBounds_toArray, List.set_cons_zero, List.set_cons_succ, List.getElem_toArray, List.getElem_cons_succ, List.getElem_cons_zero]
    refine wpAnyH_ready (rs := [10]) (by kernel_rfl) (by simp) ?_
    refine AllReadyH.cons rfl (fun K hK => ?_) AllReadyH.nil
    go_simp
    go_at_call 28; refine (make_sep (w := w2.drew) (HS2.out.step' (drew_below w2)) HNL.out HMAY.out).mono ?_; rintro e w3 ⟨v, sz, rfl, hx⟩; have HX := Lib.hid hx; have hs3 := relC_cells ((hx.2.2.2.2.2.2.2 r (.inr rfl)).trans HRL2.out); clear hx
    refine hK.out _ _ ?_ (fun hHeld => ?_)
    · exact ⟨hs3.2.1, hs3.1⟩
    clear hK K
    try simp only [Act.put, List.setIfInBounds_toArray, List.set_cons_zero, List.set_cons_succ, List.getElem_toArray, List.getElem_cons_succ, List.getElem_cons_zero]
    refine wpAnyH_take (i := 11) (v := ?_) rfl (by kernel_rfl) (by kernel_rfl) (by kernel_rfl) (fun _ _ _ h => h) (Or.inl ⟨by rfl, ?_⟩) (by assumption) ?_
    rotate_left
    · (intro w hSw; (try dsimp only at hSw); go_simp; try with_reducible rfl)
    try simp only [Act.put, List.setIfInBounds_toArray, List.set_cons_zero, List.set_cons_succ, List.getElem_toArray, List.getElem_cons_succ, List.getElem_cons_zero]
    refine wpAnyH_take (i := 12) (v := ?_) rfl (by kernel_rfl) (by kernel_rfl) (by kernel_rfl) (fun _ _ _ h => h) (Or.inl ⟨by rfl, ?_⟩) (by assumption) ?_
    rotate_left
    · (intro w hSw; (try dsimp only at hSw); go_simp; try with_reducible rfl)
    try simp only [Act.put, List.setIfInBounds_toArray, List.set_cons_zero, List.set_cons_succ, List.getElem_toArray, List.getElem_cons_succ, List.getElem_cons_zero]
    refine wpAnyH_take (i := 13) (v := ?_) rfl (by kernel_rfl) (by kernel_rfl) (by kernel_rfl) (fun _ _ _ h => h) (Or.inl ⟨by rfl, ?_⟩) (by assumption) ?_
    rotate_left
    · (intro w hSw; (try dsimp only at hSw); go_simp; try with_reducible rfl)
    try simp only [Act.put, List.setIfInBounds_toArray, List.set_cons_zero, List.set_cons_succ, List.getElem_toArray, List.getElem_cons_succ, List.getElem_cons_zero]
    refine wpAnyH_take (i := 14) (v := ?_) rfl (by kernel_rfl) (by kernel_rfl) (by kernel_rfl) (fun _ _ _ h => h) (Or.inl ⟨by rfl, ?_⟩) (by assumption) ?_
    rotate_left
    · (intro w hSw; (try dsimp only at hSw); go_simp; try with_reducible rfl)
    try simp only [Act.put, List.setIfInBounds_toArray, List.set_cons_zero, List.set_cons_succ, List.getElem_toArray, List.getElem_cons_succ, List.getElem_cons_zero]
    refine wpAnyH_take (i := 15) (v := ?_) rfl (by kernel_rfl) (by kernel_rfl) (by kernel_rfl) (fun _ _ _ h => h) (Or.inl ⟨by rfl, ?_⟩) (by assumption) ?_
    rotate_left
    · (intro w hSw; (try dsimp only at hSw); go_simp; try with_reducible rfl)
    try simp only [Act.put, List.setIfInBounds_toArray, List.set_cons_zero, List.set_cons_succ, List.getElem_toArray, List.getElem_cons_succ, List.getElem_cons_zero]
    refine wpAnyH_done (by kernel_rfl) ?_ _
    go_wp2
    refine bodyPost_ret (v := .tuple #[.int .i64 u, v, .int .i64 0]) (by simp [results, Try.results12, go_sem]) rfl ?_
    obtain ⟨hR, hsz, hsep, hkp⟩ := HX.out
    have hkk : KpA (fun k => av k ∨ k = r) W1 w3 := HK2.out.trans (hkp : KpA (fun k => av k ∨ k = r) w2 w3) (fun _ e => e)
    have hrl : r < W1.heap.size := (Array.getElem?_eq_some_iff.1 HREL.out).1
    refine ⟨v, sz, n', hn', by rw [HF.out], fun _ => by rw [HF.out, HT.out]; exact hR, ?_, ?_, HR1.out.2.trans hkk (fun _ e => .inl e)⟩
    · exact Nat.le_trans HR1.out.2.2.2.2.1 (Nat.le_trans HK2.out.2.2.2.1 hsz)
    · rw [HF.out]
      exact HR1.out.1.back (hkk.2.2.2.2 r (.inr rfl)) rfl rfl hsep (fun k hk e => by have h1 := HK2.out.2.2.2.1; have h2 : w2.heap.size ≤ sz := hsz; have := hk.1; omega)
  · have hF : ResF s t p host = (0, code, { s with now := t, R := R', tR := t }) := by
      unfold ResF
      rw [hq, if_neg hz]
    have HF := Lib.hid hF
    have b5 : (code != 0) = true := by simpa using hz
    unfold ResvPost at KR
    rw [hq] at KR
    have HZ := Lib.hid hz
    clear hF hq hz
    go_enter Try.func12, Try.ntmps12
    go_upto_region 3 with (first
      | (go_at_call 24; refine KM.out.mono ?_; rintro e w1 ⟨rfl, rfl⟩)
      | (go_at_call 26; refine KO.out.mono ?_; rintro e w1 ⟨rfl, rfl⟩))
    go_wp2_with (go_at_call 27; refine KR.out.mono ?_; rintro e w2 ⟨n', hn', rfl, hs2, hk2⟩; have HS2 := Lib.hid hs2; have HK2 := Lib.hid hk2; clear hs2 hk2)
    refine bodyPost_ret (v := .tuple #[.int .i64 0, .slice none 0 0, .int .i64 code]) (by simp [results, Try.results12, go_sem]) rfl ?_
    refine ⟨.slice none 0 0, w2.heap.size, n', hn', by rw [HF.out], fun h0 => ?_, Nat.le_trans HR1.out.2.2.2.2.1 HK2.out.2.2.2.1, ?_, HR1.out.2.trans HK2.out (fun _ e => .inl e)⟩
    · rw [HF.out] at h0; exact absurd h0 HZ.out
    · rw [HF.out]
      have hb := HR1.out.1.back (s' := { s with now := t, R := R', tR := t }) (ex := fun _ => False) (HK2.out.2.2.2.2 r (.inr rfl)) rfl rfl (HS2.out.sub (fun k hk => hk.elim id (fun e => e.elim))) (fun k hk => hk.elim)
      exact hb.sub (fun k hk => hk.imp id (fun e => by omega))
end Go.Proofs.Yteajlffchdbkjaa.Re
namespace Go.Proofs.Yteajlffchdbkjaa.Re
open Go.RowKit Go.Maps Go.Shelf Go.Proofs.Yteajlffchdbkjaa.Rv Go.Proofs.Yteajlffchdbkjaa.Ci Go.Proofs.Yteajlffchdbkjaa.Sp Go.Proofs.YteajlffchdbkjaaW.PrintWords Go.Proofs.YteajlffchdbkjaaW.PrintLast Go.Proofs.YteajlffchdbkjaaW.PrintMore
set_option linter.unusedVariables false
set_option linter.unusedSimpArgs false
attribute [local go_sem] Oper.semAt_some
theorem rot3 {w : World} {X Y Z : Ob} {av : Nat → Prop} (h : Sep w [X, Y, Z] av) : Sep w [Z, X, Y] av := by
  obtain ⟨o1, a1, a2, a3, o2, b1, b2, b3, o3, c1, c2, c3, hd⟩ := h
  refine ⟨o3, c1, c2, fun k hk => c3 k (.inl (.inl hk)), o1, a1, a2, fun k hk e => ?_, o2, b1, b2, fun k hk e => ?_, fun k hk => ?_⟩
  · rcases hk with hk | hk
    · exact a3 k hk e
    · exact c3 k (.inl (.inr e)) hk
  · rcases hk with (hk | hk) | hk
    · exact b3 k (.inl hk) e
    · exact c3 k (.inr e) hk
    · exact b3 k (.inr hk) e
  · rcases hk with ((hk | hk) | hk) | hk
    · exact hd k (.inl (.inl (.inl hk)))
    · exact c2 k hk
    · exact a2 k hk
    · exact b2 k hk
/-- A call of the circuits' table, the others beside it. -/
theorem cir_sep {w : World} {gC : Nat} {l : LimV} {C G : List CirP} {last tC : Int} {X Y : Ob} {av : Nat → Prop} (h : Sep w [X, Y, obC gC l C G last tC] av) {F : Nat} {args : Array Value} {E : Ending} {C' G' : List CirP} {last' tC' : Int}
    (hc : ∀ vl vg, CirAt w gC vl vg l C G last tC → Calls Try.prog F args w fun e w' => e = E ∧ StPost w gC vl vg l C' G' last' tC' w') :
    Calls Try.prog F args w fun e w' => e = E ∧ Sep w' [X, Y, obC gC l C' G' last' tC'] av ∧ KpA av w w' := by
  obtain ⟨ok, ⟨vl, vg, hC, hok⟩, hlt, h3, h4⟩ := rot3 h
  refine (hc vl vg hC).mono ?_
  rintro e w' ⟨he, vl', vg', hC', hn, hk⟩
  have ht := turn_core (X' := obC gC l C' G' last' tC') (w1 := w') (ex := fun _ => False) (ok' := fun k => ok k ∨ (w.heap.size ≤ k ∧ k < w'.heap.size)) hlt h3 h4
    ⟨vl', vg', hC', fun k hk' => (hn k hk').imp (hok k) (fun e => ⟨e, hC'.lt k hk'⟩)⟩ (fun k hk' => hk'.imp id And.left) (fun k hk' => hk'.elim (fun e => Nat.lt_of_lt_of_le (hlt k e) hk.2.2.2.1) And.right)
    ⟨hk.2.2.2.1, fun b hb hn' => hk.2.2.2.2 b hb (fun e => hn' (hok b e))⟩ (fun k e => e.elim)
  exact ⟨he, rot3 (rot3 (Sep.sub ht.1 (fun k hk => .inl hk))), hk.1, hk.2.1, hk.2.2.1, hk.2.2.2.1, ht.2⟩
theorem has_sep {w : World} {gR bR nR : Nat} {l : LimV} {R : List HeldP} {tR : Int} {X Y : Ob} {av : Nat → Prop} (h : Sep w [obR gR bR nR l R tR, X, Y] av) {t p : Int} (hp : I64 p) (h1 : tR ≤ t) (h2 : t ≤ 1099511627776) :
    Calls Try.prog 32 #[.pointer (some ⟨gR, 0, none⟩), .int .i64 t, .int .i64 p] w fun e w' => e = .returned (.tuple #[.int .i64 (getL (overL R t) p).2.2, .bool (hasL (overL R t) p)]) ∧ Sep w' [obR gR bR nR l (overL R t) t, X, Y] av ∧ KpA av w w' := by
  obtain ⟨_, hT, _⟩ := Sep.head h
  have K := has_calls w gR bR nR l R tR t p hT hp
  rw [onT_ok h1 h2] at K
  refine K.mono ?_
  rintro e w' ⟨rfl, hT', ht⟩
  have h2 := touch_turn h hT' ht
  exact ⟨rfl, h2.1, h2.2⟩
/-! ### Connect -/
def conBad (s : RelS) (t a b : Int) : Prop := ¬ isPeer a ∨ ¬ isPeer b ∨ a = b ∨ a = s.own ∨ b = s.own ∨ t < s.now ∨ 1099511627776 < t
def ConF (s : RelS) (t a b : Int) : Int × Int × RelS :=
  if hasL (overL s.R t) b = true then ((openG s.l.2.2.1 s.l.2.2.2.2.1 (liveC s.C t) s.last t a b ((getL (overL s.R t) b).2.2 + 30)).1, (openG s.l.2.2.1 s.l.2.2.2.2.1 (liveC s.C t) s.last t a b ((getL (overL s.R t) b).2.2 + 30)).2.1,
    { s with now := t, R := overL s.R t, tR := t, C := (openG s.l.2.2.1 s.l.2.2.2.2.1 (liveC s.C t) s.last t a b ((getL (overL s.R t) b).2.2 + 30)).2.2.1, G := s.G ++ goneC s.C t, last := (openG s.l.2.2.1 s.l.2.2.2.2.1 (liveC s.C t) s.last t a b ((getL (overL s.R t) b).2.2 + 30)).2.2.2, tC := t })
  else (0, 5, { s with now := t, R := overL s.R t, tR := t })
theorem getL_live {L : List HeldP} {t b : Int} (h : hasL (overL L t) b = true) : (getL (overL L t) b) ∈ L ∧ t < (getL (overL L t) b).2.2 := by
  unfold hasL at h
  obtain ⟨x, hx, hb⟩ := List.any_eq_true.1 h
  unfold getL
  cases hf : (overL L t).find? (fun x => decide (x.1 = b)) with
  | none => exact absurd hb (by have := List.find?_eq_none.1 hf x hx; simpa using this)
  | some y =>
    have hm := List.mem_of_find?_eq_some hf
    unfold overL at hm
    have h2 := (List.mem_filter.1 hm).2
    refine ⟨(List.mem_filter.1 hm).1, ?_⟩
    simpa using h2
set_option maxRecDepth 100000 in
set_option maxHeartbeats 2000000 in
theorem rcon_bad (W : World) (base r gN gR bR nR gC : Nat) (s : RelS) (av : Nat → Prop) (t a b : Int) (h : RelW W base r gN gR bR nR gC s av) (hb : conBad s t a b) :
    Calls Try.prog 14 #[.pointer (some ⟨r, 0, none⟩), .int .i64 t, .int .i64 a, .int .i64 b] W fun e w' => e = .returned (.tuple #[.int .i64 0, .int .i64 1]) ∧ W = w' := by
  have hr := h.rel
  obtain ⟨c0, c1, c2, c3, c4⟩ := relC_cells hr
  have KN := Lib.hid (fun hh => ron_no W r _ gN gR gC _ t hr hh)
  have KY := Lib.hid (fun n hh => rmay_yes W n hh)
  have KX := Lib.hid (fun n hh => rmay_no W n hh)
  clear h hr
  by_cases h1 : isPeer a
  · have KA := Lib.hid (KY.out a h1)
    by_cases h2 : isPeer b
    · have KB := Lib.hid (KY.out b h2)
      by_cases h3 : a = b
      · have b3 : (a == b) = true := by simpa using h3
        clear hb h1 h2 h3
        go_enter Try.func14, Try.ntmps14
        go_wp2_with (first | (go_at_call 24; (with_reducible refine KA.out.mono ?_); rintro e w1 ⟨rfl, rfl⟩) | (go_at_call 24; (with_reducible refine KB.out.mono ?_); rintro e w1 ⟨rfl, rfl⟩))
        refine bodyPost_ret (v := .tuple #[.int .i64 0, .int .i64 1]) (by simp [results, Try.results14, go_sem]) rfl ⟨rfl, rfl⟩
      · have b3 : (a == b) = false := by simpa using h3
        by_cases h4 : a = s.own
        · have b4 : (a == s.own) = true := by simpa using h4
          clear hb h1 h2 h3 h4
          go_enter Try.func14, Try.ntmps14
          go_wp2_with (first | (go_at_call 24; (with_reducible refine KA.out.mono ?_); rintro e w1 ⟨rfl, rfl⟩) | (go_at_call 24; (with_reducible refine KB.out.mono ?_); rintro e w1 ⟨rfl, rfl⟩))
          refine bodyPost_ret (v := .tuple #[.int .i64 0, .int .i64 1]) (by simp [results, Try.results14, go_sem]) rfl ⟨rfl, rfl⟩
        · have b4 : (a == s.own) = false := by simpa using h4
          by_cases h5 : b = s.own
          · have b5 : (b == s.own) = true := by simpa using h5
            clear hb h1 h2 h3 h4 h5
            go_enter Try.func14, Try.ntmps14
            go_wp2_with (first | (go_at_call 24; (with_reducible refine KA.out.mono ?_); rintro e w1 ⟨rfl, rfl⟩) | (go_at_call 24; (with_reducible refine KB.out.mono ?_); rintro e w1 ⟨rfl, rfl⟩))
            refine bodyPost_ret (v := .tuple #[.int .i64 0, .int .i64 1]) (by simp [results, Try.results14, go_sem]) rfl ⟨rfl, rfl⟩
          · have b5 : (b == s.own) = false := by simpa using h5
            have KN2 := Lib.hid (KN.out (by rcases hb with e | e | e | e | e | e | e; exact absurd h1 e; exact absurd h2 e; exact absurd e h3; exact absurd e h4; exact absurd e h5; exact .inl e; exact .inr e))
            clear hb h1 h2 h3 h4 h5
            go_enter Try.func14, Try.ntmps14
            go_wp2_with (first | (go_at_call 24; (with_reducible refine KA.out.mono ?_); rintro e w1 ⟨rfl, rfl⟩) | (go_at_call 24; (with_reducible refine KB.out.mono ?_); rintro e w1 ⟨rfl, rfl⟩) | (go_at_call 26; refine KN2.out.mono ?_; rintro e w1 ⟨rfl, rfl⟩))
            refine bodyPost_ret (v := .tuple #[.int .i64 0, .int .i64 1]) (by simp [results, Try.results14, go_sem]) rfl ⟨rfl, rfl⟩
    · have KB := Lib.hid (KX.out b h2)
      clear hb h1 h2
      go_enter Try.func14, Try.ntmps14
      go_wp2_with (first | (go_at_call 24; (with_reducible refine KA.out.mono ?_); rintro e w1 ⟨rfl, rfl⟩) | (go_at_call 24; (with_reducible refine KB.out.mono ?_); rintro e w1 ⟨rfl, rfl⟩))
      refine bodyPost_ret (v := .tuple #[.int .i64 0, .int .i64 1]) (by simp [results, Try.results14, go_sem]) rfl ⟨rfl, rfl⟩
  · have KA := Lib.hid (KX.out a h1)
    clear hb h1
    go_enter Try.func14, Try.ntmps14
    go_wp2_with (first | (go_at_call 24; (with_reducible refine KA.out.mono ?_); rintro e w1 ⟨rfl, rfl⟩))
    refine bodyPost_ret (v := .tuple #[.int .i64 0, .int .i64 1]) (by simp [results, Try.results14, go_sem]) rfl ⟨rfl, rfl⟩
def ConPost (W : World) (base r gN gR bR nR gC : Nat) (s : RelS) (av : Nat → Prop) (t a b : Int) (e : Ending) (w' : World) : Prop :=
  e = .returned (.tuple #[.int .i64 (ConF s t a b).1, .int .i64 (ConF s t a b).2.1]) ∧ RelW w' base r gN gR bR nR gC (ConF s t a b).2.2 av ∧ KpA av W w'
set_option maxRecDepth 100000 in
set_option maxHeartbeats 4000000 in
theorem rcon_calls (W : World) (base r gN gR bR nR gC k : Nat) (s : RelS) (av : Nat → Prop) (t a b : Int) (h : RelW W base r gN gR bR nR gC s av) (hi : RInv k s) (hk : k ≤ 10000) (hb : ¬ conBad s t a b) :
    Calls Try.prog 14 #[.pointer (some ⟨r, 0, none⟩), .int .i64 t, .int .i64 a, .int .i64 b] W (ConPost W base r gN gR bR nR gC s av t a b) := by
  have ha : isPeer a := Classical.byContradiction (fun e => hb (.inl e))
  have hb2 : isPeer b := Classical.byContradiction (fun e => hb (.inr (.inl e)))
  have hab : a ≠ b := fun e => hb (.inr (.inr (.inl e)))
  have hao : a ≠ s.own := fun e => hb (.inr (.inr (.inr (.inl e))))
  have hbo : b ≠ s.own := fun e => hb (.inr (.inr (.inr (.inr (.inl e)))))
  have hp4 : s.now ≤ t := by rcases Int.lt_or_le t s.now with e | e; exact absurd (.inr (.inr (.inr (.inr (.inr (.inl e)))))) hb; exact e
  have hp5 : t ≤ 1099511627776 := by rcases Int.lt_or_le 1099511627776 t with e | e; exact absurd (.inr (.inr (.inr (.inr (.inr (.inr e)))))) hb; exact e
  have hr := h.rel
  obtain ⟨c0, c1, c2, c3, c4⟩ := relC_cells hr
  have KO := Lib.hid (ron_yes W r _ gN gR gC _ t hr hp4 hp5)
  have KA := Lib.hid (rmay_yes W a ha)
  have KB := Lib.hid (rmay_yes W b hb2)
  obtain ⟨W1, hW1⟩ : ∃ X, W.setCell ⟨r, 4, none⟩ (.int .i64 t) = X := ⟨_, rfl⟩
  have h1 := h.on t
  rw [hW1] at h1 KO
  have hml := (mayL_iff s.l).1 hi.may
  have hbI : I64 b := by have := hb2; unfold isPeer at this; unfold I64; omega
  have KH := has_sep h1.1.tail (t := t) (p := b) hbI (Int.le_trans hi.tR hp4) hp5
  have HR1 := Lib.hid h1
  have HI := Lib.hid hi
  have HP := Lib.hid (show isPeer a ∧ isPeer b ∧ a ≠ b ∧ 0 ≤ t ∧ t ≤ 1099511627776 ∧ s.now ≤ t from ⟨ha, hb2, hab, by have := hi.now; omega, hp5, hp4⟩)
  have b3 : (a == b) = false := by simpa using hab
  have b4 : (a == s.own) = false := by simpa using hao
  have b5 : (b == s.own) = false := by simpa using hbo
  have hr1 := h1.1.rel
  have e2 := (relC_cells hr1).2.2.1
  have HREL := Lib.hid hr1
  have HML := Lib.hid hml
  obtain ⟨R', hR'⟩ : ∃ R', overL s.R t = R' := ⟨_, rfl⟩
  obtain ⟨u, hu⟩ : ∃ u, (getL R' b).2.2 = u := ⟨_, rfl⟩
  rw [hR', hu] at KH
  by_cases hh : hasL R' b = true
  · have hlv := getL_live (by rw [hR']; exact hh)
    rw [hR', hu] at hlv
    have hub : u ≤ 1099511627776 := by have := (hi.rok _ hlv.1).2.2.2; rw [hu] at this; exact this
    have HU := Lib.hid (show t < u ∧ u ≤ 1099511627776 from ⟨hlv.2, hub⟩)
    have hub0 : 0 ≤ u := by have := hi.now; omega
    rw [hh] at KH
    have KH := Lib.hid KH
    have HF := Lib.hid (show ConF s t a b = ((openG s.l.2.2.1 s.l.2.2.2.2.1 (liveC s.C t) s.last t a b (u + 30)).1, (openG s.l.2.2.1 s.l.2.2.2.2.1 (liveC s.C t) s.last t a b (u + 30)).2.1,
        { s with now := t, R := R', tR := t, C := (openG s.l.2.2.1 s.l.2.2.2.2.1 (liveC s.C t) s.last t a b (u + 30)).2.2.1, G := s.G ++ goneC s.C t, last := (openG s.l.2.2.1 s.l.2.2.2.2.1 (liveC s.C t) s.last t a b (u + 30)).2.2.2, tC := t }) by
      unfold ConF
      rw [hR', if_pos hh, hu])
    clear h hi hb ha hb2 hab hao hbo hp4 hp5 hr h1 hW1 hml hr1 hbI hR' hu hh hlv
    go_enter Try.func14, Try.ntmps14
    go_upto_region 3 with (first
      | (go_at_call 24; (with_reducible refine KA.out.mono ?_); rintro e w1 ⟨rfl, rfl⟩)
      | (go_at_call 24; (with_reducible refine KB.out.mono ?_); rintro e w1 ⟨rfl, rfl⟩)
      | (go_at_call 26; refine KO.out.mono ?_; rintro e w1 ⟨rfl, rfl⟩))
    go_upto_region 6 with (go_at_call 32; refine KH.out.mono ?_; rintro e w2 ⟨rfl, hs2, hk2⟩; have HS2 := Lib.hid hs2; have HK2 := Lib.hid hk2; clear hs2 hk2)
    have HRL2 := Lib.hid ((HK2.out.2.2.2.2 r (.inr rfl)).trans HREL.out)
    obtain ⟨_, _, _, d3, _⟩ := relC_cells HRL2.out
    have KC := Lib.hid (cir_sep HS2.out (F := 33) (args := #[.pointer (some ⟨gC, 0, none⟩), .int .i64 t, .int .i64 a, .int .i64 b, .int .i64 (u + 30)]) (fun vl vg hC => by
      obtain ⟨x1, x2, x3, x4, x5⟩ := HML.out
      have hI := HI.out
      have hP := HP.out
      have hU := HU.out
      have hl1 : (s.G.length + s.C.length + 1) * 48 ≤ 140737488355328 := Nat.le_trans (Nat.mul_le_mul_right 48 (Nat.succ_le_succ (Nat.le_trans hI.clen hk))) (by decide)
      have hl2 : s.C.length ≤ 1000000 := Nat.le_trans (Nat.le_add_left _ _) (Nat.le_trans hI.clen (Nat.le_trans hk (by decide)))
      have hla := hI.last
      have htc := hI.tC
      exact open_calls w2 gC vl vg s.l.1 s.l.2.1 s.l.2.2.1 s.l.2.2.2.1 s.l.2.2.2.2.1 s.l.2.2.2.2.2 s.C s.G s.last s.tC t a b (u + 30) hC hl1 hl2 hP.1 hP.2.1 hP.2.2.1 (by clear hl1; omega) (by clear hl1; omega) (by clear hl1; omega) (by clear hl1; omega)))
    clear c0 c1 c2 c3 c4 e2 KA KB KO KH
    go_wp2_with (go_at_call 33; refine KC.out.mono ?_; rintro e w3 ⟨rfl, hs3, hk3⟩; have HS3 := Lib.hid hs3; have HK3 := Lib.hid hk3; clear hs3 hk3)
    refine bodyPost_ret (v := .tuple #[.int .i64 (openG s.l.2.2.1 s.l.2.2.2.2.1 (liveC s.C t) s.last t a b (u + 30)).1, .int .i64 (openG s.l.2.2.1 s.l.2.2.2.2.1 (liveC s.C t) s.last t a b (u + 30)).2.1]) (by simp [results, Try.results14, go_sem]) rfl ?_
    have hkk : KpA (fun k => av k ∨ k = r) W1 w3 := HK2.out.trans HK3.out (fun _ e => e)
    unfold ConPost
    rw [HF.out]
    have hb := HR1.out.1.back (s' := { s with now := t, R := R', tR := t, C := (openG s.l.2.2.1 s.l.2.2.2.2.1 (liveC s.C t) s.last t a b (u + 30)).2.2.1, G := s.G ++ goneC s.C t, last := (openG s.l.2.2.1 s.l.2.2.2.2.1 (liveC s.C t) s.last t a b (u + 30)).2.2.2, tC := t }) (ex := fun _ => False) (hkk.2.2.2.2 r (.inr rfl)) rfl rfl (HS3.out.sub (fun k hk => hk.elim id (fun e => e.elim))) (fun k hk => hk.elim)
    exact ⟨rfl, hb.sub (fun k hk => .inl hk), HR1.out.2.trans hkk (fun _ e => .inl e)⟩
  · have hh2 : hasL R' b = false := by simpa using hh
    rw [hh2] at KH
    have KH := Lib.hid KH
    have HF := Lib.hid (show ConF s t a b = (0, 5, { s with now := t, R := R', tR := t }) by
      unfold ConF
      rw [hR', if_neg hh])
    clear h hi hb ha hb2 hab hao hbo hp4 hp5 hr h1 hW1 hml hr1 hbI hR' hu hh hh2
    go_enter Try.func14, Try.ntmps14
    go_upto_region 3 with (first
      | (go_at_call 24; (with_reducible refine KA.out.mono ?_); rintro e w1 ⟨rfl, rfl⟩)
      | (go_at_call 24; (with_reducible refine KB.out.mono ?_); rintro e w1 ⟨rfl, rfl⟩)
      | (go_at_call 26; refine KO.out.mono ?_; rintro e w1 ⟨rfl, rfl⟩))
    go_wp2_with (go_at_call 32; refine KH.out.mono ?_; rintro e w2 ⟨rfl, hs2, hk2⟩; have HS2 := Lib.hid hs2; have HK2 := Lib.hid hk2; clear hs2 hk2)
    refine bodyPost_ret (v := .tuple #[.int .i64 0, .int .i64 5]) (by simp [results, Try.results14, go_sem]) rfl ?_
    unfold ConPost
    rw [HF.out]
    have hb := HR1.out.1.back (s' := { s with now := t, R := R', tR := t }) (ex := fun _ => False) (HK2.out.2.2.2.2 r (.inr rfl)) rfl rfl (HS2.out.sub (fun k hk => hk.elim id (fun e => e.elim))) (fun k hk => hk.elim)
    exact ⟨rfl, hb.sub (fun k hk => .inl hk), HR1.out.2.trans HK2.out (fun _ e => .inl e)⟩
/-! ### Forward -/
def FwdF (s : RelS) (t no frm size : Int) : Int × Int × RelS :=
  ((fwdG s.l.2.2.2.2.2 (liveC s.C t) no frm size).1, (fwdG s.l.2.2.2.2.2 (liveC s.C t) no frm size).2.1, { s with now := t, C := (fwdG s.l.2.2.2.2.2 (liveC s.C t) no frm size).2.2, G := s.G ++ goneC s.C t, tC := t })
def FwdPost (W : World) (base r gN gR bR nR gC : Nat) (s : RelS) (av : Nat → Prop) (t no frm size : Int) (e : Ending) (w' : World) : Prop :=
  e = .returned (.tuple #[.int .i64 (FwdF s t no frm size).1, .int .i64 (FwdF s t no frm size).2.1]) ∧ RelW w' base r gN gR bR nR gC (FwdF s t no frm size).2.2 av ∧ KpA av W w'
set_option maxRecDepth 100000 in
set_option maxHeartbeats 4000000 in
theorem rfwd_calls (W : World) (base r gN gR bR nR gC k : Nat) (s : RelS) (av : Nat → Prop) (t no frm : Int) (A : Option Addr) (m c : Nat) (h : RelW W base r gN gR bR nR gC s av) (hi : RInv k s) (hk : k ≤ 10000) (h4 : s.now ≤ t) (h5 : t ≤ 1099511627776) (hm : m ≤ 1000000) :
    Calls Try.prog 15 #[.pointer (some ⟨r, 0, none⟩), .int .i64 t, .int .i64 no, .int .i64 frm, .slice A m c] W (FwdPost W base r gN gR bR nR gC s av t no frm m) := by
  have hr := h.rel
  obtain ⟨c0, c1, c2, c3, c4⟩ := relC_cells hr
  have KO := Lib.hid (ron_yes W r _ gN gR gC _ t hr h4 h5)
  obtain ⟨W1, hW1⟩ : ∃ X, W.setCell ⟨r, 4, none⟩ (.int .i64 t) = X := ⟨_, rfl⟩
  have h1 := h.on t
  rw [hW1] at h1 KO
  have hml := (mayL_iff s.l).1 hi.may
  have KF := Lib.hid (cir_sep h1.1.tail (F := 34) (args := #[.pointer (some ⟨gC, 0, none⟩), .int .i64 t, .int .i64 no, .int .i64 frm, .int .i64 m]) (C' := (fwdG s.l.2.2.2.2.2 (liveC s.C t) no frm m).2.2) (G' := s.G ++ goneC s.C t) (last' := s.last) (tC' := t) (E := .returned (.tuple #[.int .i64 (fwdG s.l.2.2.2.2.2 (liveC s.C t) no frm m).1, .int .i64 (fwdG s.l.2.2.2.2.2 (liveC s.C t) no frm m).2.1])) (fun vl vg hC => by
    obtain ⟨x1, x2, x3, x4, x5⟩ := hml
    have hl1 : (s.G.length + s.C.length + 1) * 48 ≤ 140737488355328 := Nat.le_trans (Nat.mul_le_mul_right 48 (Nat.succ_le_succ (Nat.le_trans hi.clen hk))) (by decide)
    have hl2 : s.C.length ≤ 1000000 := Nat.le_trans (Nat.le_add_left _ _) (Nat.le_trans hi.clen (Nat.le_trans hk (by decide)))
    have K := fwd_calls W1 gC vl vg s.l.1 s.l.2.1 s.l.2.2.1 s.l.2.2.2.1 s.l.2.2.2.2.1 s.l.2.2.2.2.2 s.C s.G s.last s.tC t no frm m hC hl1 hl2 (by clear hl1; omega) (by clear hl1; omega) hi.cok
    rw [onT_ok (Int.le_trans hi.tC h4) h5] at K
    exact K))
  have HR1 := Lib.hid h1
  have hr1 := h1.1.rel
  have e3 := (relC_cells hr1).2.2.2.1
  have HREL := Lib.hid hr1
  clear h hi h4 h5 hr h1 hW1 hml hr1
  obtain ⟨q1, hq1⟩ : ∃ q, (fwdG s.l.2.2.2.2.2 (liveC s.C t) no frm m).1 = q := ⟨_, rfl⟩
  obtain ⟨q2, hq2⟩ : ∃ q, (fwdG s.l.2.2.2.2.2 (liveC s.C t) no frm m).2.1 = q := ⟨_, rfl⟩
  rw [hq1, hq2] at KF
  have HQ := Lib.hid (And.intro hq1 hq2)
  clear hq1 hq2
  go_enter Try.func15, Try.ntmps15
  go_wp2_with (first
    | (go_at_call 26; refine KO.out.mono ?_; rintro e w1 ⟨rfl, rfl⟩)
    | (go_at_call 34; refine KF.out.mono ?_; rintro e w3 ⟨rfl, hs3, hk3⟩; have HS3 := Lib.hid hs3; have HK3 := Lib.hid hk3; clear hs3 hk3))
  refine bodyPost_ret (v := .tuple #[.int .i64 q1, .int .i64 q2]) (by simp [results, Try.results15, go_sem]) rfl ?_
  have hb := HR1.out.1.back (s' := { s with now := t, C := (fwdG s.l.2.2.2.2.2 (liveC s.C t) no frm m).2.2, G := s.G ++ goneC s.C t, tC := t }) (ex := fun _ => False) (HK3.out.2.2.2.2 r (.inr rfl)) rfl rfl (HS3.out.sub (fun k hk => hk.elim id (fun e => e.elim))) (fun k hk => hk.elim)
  unfold FwdPost FwdF
  rw [HQ.out.1, HQ.out.2]
  exact ⟨rfl, hb.sub (fun k hk => .inl hk), HR1.out.2.trans HK3.out (fun _ e => .inl e)⟩
end Go.Proofs.Yteajlffchdbkjaa.Re
namespace Go.Proofs.Yteajlffchdbkjaa.Re
open Go.RowKit Go.Maps Go.Shelf Go.Proofs.Yteajlffchdbkjaa.Rv Go.Proofs.Yteajlffchdbkjaa.Ci Go.Proofs.Yteajlffchdbkjaa.Sp Go.Proofs.YteajlffchdbkjaaW.PrintWords Go.Proofs.YteajlffchdbkjaaW.PrintLast Go.Proofs.YteajlffchdbkjaaW.PrintMore
set_option linter.unusedVariables false
set_option linter.unusedSimpArgs false
theorem insL_len (h : HeldP) : ∀ L : List HeldP, (insL h L).length = L.length + 1
  | [] => rfl
  | x :: r => by
    unfold insL
    split
    · rfl
    · rw [List.length_cons, insL_len h r, List.length_cons]
theorem putL_len (L : List HeldP) (h : HeldP) : (putL L h).length ≤ L.length + 1 := by
  unfold putL
  rw [insL_len]
  have := List.length_filter_le (fun x : HeldP => !decide (x.1 = h.1)) L
  unfold delL
  omega
theorem overL_len (L : List HeldP) (t : Int) : (overL L t).length ≤ L.length := List.length_filter_le _ _
theorem live_gone (L : List CirP) (t : Int) : (liveC L t).length + (goneC L t).length = L.length := by
  induction L with
  | nil => rfl
  | cons c r ih =>
    unfold liveC goneC at ih ⊢
    rw [List.filter_cons, List.filter_cons, List.length_cons]
    by_cases h : c.2.2.2.1 > t
    · rw [decide_eq_true h]
      simp only [Bool.not_true, Bool.false_eq_true, if_true, if_false, List.length_cons]
      omega
    · rw [decide_eq_false h]
      simp only [Bool.not_false, Bool.false_eq_true, if_true, if_false, List.length_cons]
      omega
theorem liveC_mem {L : List CirP} {t : Int} {c : CirP} (h : c ∈ liveC L t) : c ∈ L ∧ c.2.2.2.1 > t := by
  unfold liveC at h
  have := List.mem_filter.1 h
  exact ⟨this.1, by simpa using this.2⟩
theorem overL_mem {L : List HeldP} {t : Int} {q : HeldP} (h : q ∈ overL L t) : q ∈ L ∧ t < q.2.2 := by
  unfold overL at h
  have := List.mem_filter.1 h
  exact ⟨this.1, by simpa using this.2⟩
theorem resG_rows {l : LimV} {L : List HeldP} {t p host : Int} {P : List HeldP → Prop} (h1 : P L) (h2 : P (putL L (p, host, capT (t + l.2.2.2.1)))) : P (resG l L t p host).2.2 := by
  unfold resG
  split
  · exact h1
  · split
    · exact h1
    · exact h2
theorem capT_le (t : Int) : capT t ≤ 1099511627776 := by unfold capT; split <;> omega
theorem RInv.mono {k k' : Nat} {s : RelS} (h : RInv k s) (hk : k ≤ k') : RInv k' s :=
  ⟨h.own, h.may, h.ris, Nat.le_trans h.rlen hk, h.rok, Nat.le_trans h.clen hk, ⟨h.last.1, by have := h.last.2; omega⟩, h.cok, Nat.le_trans h.nlen hk, h.tR, h.tC, h.now⟩
theorem res_ok {s : RelS} {t p host : Int} (hb : ¬ resBad s t p host) : p ≠ s.own ∧ isPeer p ∧ host ≠ 0 ∧ s.now ≤ t ∧ t ≤ 1099511627776 :=
  ⟨fun e => hb (.inl e), Classical.byContradiction (fun e => hb (.inr (.inl e))), fun e => hb (.inr (.inr (.inl e))), by rcases Int.lt_or_le t s.now with e | e; exact absurd (.inr (.inr (.inr (.inl e)))) hb; exact e, by rcases Int.lt_or_le 1099511627776 t with e | e; exact absurd (.inr (.inr (.inr (.inr e)))) hb; exact e⟩
theorem rinv_res {k : Nat} {s : RelS} (h : RInv k s) {t p host : Int} (hb : ¬ resBad s t p host) : RInv (k + 1) (ResF s t p host).2.2 := by
  obtain ⟨h1, h2, h3, h4, h5⟩ := res_ok hb
  have hn := h.now
  have htR := h.tR
  have htC := h.tC
  have hr1 : Ris (resG s.l (overL s.R t) t p host).2.2 := resG_rows (P := Ris) (ris_filter h.ris _) (ris_put (ris_filter h.ris _) _)
  have hr2 : (resG s.l (overL s.R t) t p host).2.2.length ≤ k + 1 := by
    have a := overL_len s.R t
    have b := putL_len (overL s.R t) (p, host, capT (t + s.l.2.2.2.1))
    have c := h.rlen
    exact resG_rows (P := fun L => L.length ≤ k + 1) (by omega) (by omega)
  have hr3 : ∀ q ∈ (resG s.l (overL s.R t) t p host).2.2, 1 ≤ q.1 ∧ q.1 ≤ 2147483647 ∧ q.1 ≠ s.own ∧ q.2.2 ≤ 1099511627776 := by
    refine resG_rows (P := fun L => ∀ q ∈ L, 1 ≤ q.1 ∧ q.1 ≤ 2147483647 ∧ q.1 ≠ s.own ∧ q.2.2 ≤ 1099511627776) (fun q hq => h.rok q (overL_mem hq).1) (fun q hq => ?_)
    rcases putL_mem.1 hq with rfl | ⟨hq, _⟩
    · exact ⟨h2.1, h2.2, h1, capT_le _⟩
    · exact h.rok q (overL_mem hq).1
  have hc := h.clen
  have hla := h.last
  unfold ResF
  split
  · exact ⟨h.own, h.may, hr1, hr2, hr3, Nat.le_succ_of_le hc, ⟨hla.1, by show s.last ≤ _; omega⟩, h.cok, Nat.le_trans (Nt.mintF_length _ _ _) (Nat.succ_le_succ h.nlen), Int.le_refl t, Int.le_trans htC h4, ⟨Int.le_trans hn.1 h4, h5⟩⟩
  · exact ⟨h.own, h.may, hr1, hr2, hr3, Nat.le_succ_of_le hc, ⟨hla.1, by show s.last ≤ _; omega⟩, h.cok, Nat.le_succ_of_le h.nlen, Int.le_refl t, Int.le_trans htC h4, ⟨Int.le_trans hn.1 h4, h5⟩⟩
theorem con_ok {s : RelS} {t a b : Int} (hb : ¬ conBad s t a b) : isPeer a ∧ isPeer b ∧ a ≠ b ∧ a ≠ s.own ∧ b ≠ s.own ∧ s.now ≤ t ∧ t ≤ 1099511627776 :=
  ⟨Classical.byContradiction (fun e => hb (.inl e)), Classical.byContradiction (fun e => hb (.inr (.inl e))), fun e => hb (.inr (.inr (.inl e))), fun e => hb (.inr (.inr (.inr (.inl e)))), fun e => hb (.inr (.inr (.inr (.inr (.inl e))))), by rcases Int.lt_or_le t s.now with e | e; exact absurd (.inr (.inr (.inr (.inr (.inr (.inl e)))))) hb; exact e, by rcases Int.lt_or_le 1099511627776 t with e | e; exact absurd (.inr (.inr (.inr (.inr (.inr (.inr e)))))) hb; exact e⟩
/-- What Open leaves: the rows as they were, or one more. -/
theorem openG_rows {c d : Int} {L : List CirP} {last t a b u : Int} {P : List CirP → Int → Prop} (h1 : P L last) (h2 : P (L ++ [(last + 1, a, b, (if t + d < u then t + d else u), 0, 0)]) (last + 1)) : P (openG c d L last t a b u).2.2.1 (openG c d L last t a b u).2.2.2 := by
  unfold openG
  split
  · exact h1
  · split
    · exact h1
    · exact h2
theorem rinv_con {k : Nat} {s : RelS} (h : RInv k s) {t a b : Int} (hb : ¬ conBad s t a b) : RInv (k + 1) (ConF s t a b).2.2 := by
  obtain ⟨h1, h2, h3, _, _, h4, h5⟩ := con_ok hb
  have hn := h.now
  have htR := h.tR
  have htC := h.tC
  have hr1 : Ris (overL s.R t) := ris_filter h.ris _
  have hr2 : (overL s.R t).length ≤ k + 1 := by have := overL_len s.R t; have := h.rlen; omega
  have hr3 : ∀ q ∈ overL s.R t, 1 ≤ q.1 ∧ q.1 ≤ 2147483647 ∧ q.1 ≠ s.own ∧ q.2.2 ≤ 1099511627776 := fun q hq => h.rok q (overL_mem hq).1
  have hc := h.clen
  have hla := h.last
  have hlg := live_gone s.C t
  unfold ConF
  split
  · have hall : (s.G ++ goneC s.C t).length + (openG s.l.2.2.1 s.l.2.2.2.2.1 (liveC s.C t) s.last t a b ((getL (overL s.R t) b).2.2 + 30)).2.2.1.length ≤ k + 1 ∧ (0 ≤ (openG s.l.2.2.1 s.l.2.2.2.2.1 (liveC s.C t) s.last t a b ((getL (overL s.R t) b).2.2 + 30)).2.2.2 ∧ (openG s.l.2.2.1 s.l.2.2.2.2.1 (liveC s.C t) s.last t a b ((getL (overL s.R t) b).2.2 + 30)).2.2.2 ≤ (k + 1 : Nat)) ∧ ∀ c ∈ (openG s.l.2.2.1 s.l.2.2.2.2.1 (liveC s.C t) s.last t a b ((getL (overL s.R t) b).2.2 + 30)).2.2.1, okBytes c := by
      refine openG_rows (P := fun L last => (s.G ++ goneC s.C t).length + L.length ≤ k + 1 ∧ (0 ≤ last ∧ last ≤ (k + 1 : Nat)) ∧ ∀ c ∈ L, okBytes c) ⟨?_, by omega, fun c hc => h.cok c (liveC_mem hc).1⟩ ⟨?_, by omega, fun c hc => ?_⟩
      · rw [List.length_append]; omega
      · rw [List.length_append, List.length_append, List.length_singleton]; omega
      · rcases List.mem_append.1 hc with hc | hc
        · exact h.cok c (liveC_mem hc).1
        · rw [List.mem_singleton.1 hc]
          exact ⟨⟨Int.le_refl 0, (by decide : (0 : Int) ≤ 1073741824)⟩, ⟨Int.le_refl 0, (by decide : (0 : Int) ≤ 1073741824)⟩, h3⟩
    exact ⟨h.own, h.may, hr1, hr2, hr3, hall.1, hall.2.1, hall.2.2, Nat.le_succ_of_le h.nlen, Int.le_refl t, Int.le_refl t, ⟨Int.le_trans hn.1 h4, h5⟩⟩
  · exact ⟨h.own, h.may, hr1, hr2, hr3, Nat.le_succ_of_le hc, ⟨hla.1, by show s.last ≤ _; omega⟩, h.cok, Nat.le_succ_of_le h.nlen, Int.le_refl t, Int.le_trans htC h4, ⟨Int.le_trans hn.1 h4, h5⟩⟩
/-- What Forward leaves: the rows, one less, or one with more bytes. -/
theorem fwdG_rows {d : Int} {L : List CirP} {no frm size : Int} {P : List CirP → Prop} (h1 : P L) (h2 : ∀ i, P (L.eraseIdx i)) (h3 : ∀ i (c : CirP), L[i]? = some c → size ≤ d - c.2.2.2.2.2 → P (L.set i (c.1, c.2.1, c.2.2.1, c.2.2.2.1, c.2.2.2.2.1, c.2.2.2.2.2 + size))) (h4 : ∀ i (c : CirP), L[i]? = some c → size ≤ d - c.2.2.2.2.1 → P (L.set i (c.1, c.2.1, c.2.2.1, c.2.2.2.1, c.2.2.2.2.1 + size, c.2.2.2.2.2))) : P (fwdG d L no frm size).2.2 := by
  unfold fwdG
  split
  · exact h1
  · rename_i c hc
    split
    · exact h1
    · split
      · split
        · exact h2 _
        · exact h3 _ c hc (by omega)
      · split
        · exact h2 _
        · exact h4 _ c hc (by omega)
theorem rinv_fwd {k : Nat} {s : RelS} (h : RInv k s) {t no frm size : Int} (h4 : s.now ≤ t) (h5 : t ≤ 1099511627776) (hs : 0 ≤ size) : RInv k (FwdF s t no frm size).2.2 := by
  have hn := h.now
  have htR := h.tR
  have hc := h.clen
  have hlg := live_gone s.C t
  have hd : s.l.2.2.2.2.2 ≤ 1073741824 := ((mayL_iff s.l).1 h.may).2.2.2.2.2
  have hall : (fwdG s.l.2.2.2.2.2 (liveC s.C t) no frm size).2.2.length ≤ (liveC s.C t).length ∧ ∀ c ∈ (fwdG s.l.2.2.2.2.2 (liveC s.C t) no frm size).2.2, okBytes c := by
    have hok : ∀ c ∈ liveC s.C t, okBytes c := fun c hc => h.cok c (liveC_mem hc).1
    refine fwdG_rows (P := fun L => L.length ≤ (liveC s.C t).length ∧ ∀ c ∈ L, okBytes c) ⟨Nat.le_refl _, hok⟩ (fun i => ⟨?_, fun c hc => hok c (List.mem_of_mem_eraseIdx hc)⟩) (fun i c hi hs2 => ⟨by simp, fun x hx => ?_⟩) (fun i c hi hs2 => ⟨by simp, fun x hx => ?_⟩)
    · rw [List.length_eraseIdx]; split <;> omega
    · have hco := hok c (List.mem_of_getElem? hi)
      rcases List.mem_or_eq_of_mem_set hx with hx | rfl
      · exact hok x hx
      · unfold okBytes at hco ⊢; dsimp only; omega
    · have hco := hok c (List.mem_of_getElem? hi)
      rcases List.mem_or_eq_of_mem_set hx with hx | rfl
      · exact hok x hx
      · unfold okBytes at hco ⊢; dsimp only; omega
  exact ⟨h.own, h.may, h.ris, h.rlen, h.rok, by show (s.G ++ goneC s.C t).length + (fwdG s.l.2.2.2.2.2 (liveC s.C t) no frm size).2.2.length ≤ k; rw [List.length_append]; have := hall.1; omega, h.last, hall.2, h.nlen, Int.le_trans h.tR h4, Int.le_refl t, ⟨Int.le_trans hn.1 h4, h5⟩⟩
end Go.Proofs.Yteajlffchdbkjaa.Re
namespace Go.Proofs.Yteajlffchdbkjaa.Rv
open Go.RowKit Go.Maps Go.Shelf Go.Sort Go.Proofs.YteajlffchdbkjaaW.PrintWords Go.Proofs.YteajlffchdbkjaaW.PrintLast Go.Proofs.YteajlffchdbkjaaW.PrintMore
set_option linter.unusedVariables false
set_option linter.unusedSimpArgs false
attribute [local go_sem] Oper.semAt_some
def flatH (L : List HeldP) : List Value := L.flatMap (fun x => (heldC x).toList)
theorem flatH_snoc (L : List HeldP) (x : HeldP) : flatH (L ++ [x]) = flatH L ++ [.int .i64 x.1, .int .u32 x.2.1, .int .i64 x.2.2] := by simp [flatH, heldC]
theorem flatH_len (L : List HeldP) : (flatH L).length = L.length * 3 := by
  induction L with
  | nil => rfl
  | cons x r ih => unfold flatH at ih ⊢; rw [List.flatMap_cons, List.length_append, ih, List.length_cons]; simp [heldC]; omega
theorem flatH_at : ∀ (L : List HeldP) (i : Nat) (hi : i < L.length), (flatH L)[i * 3]? = some (.int .i64 L[i].1) ∧ (flatH L)[i * 3 + 1]? = some (.int .u32 L[i].2.1) ∧ (flatH L)[i * 3 + 2]? = some (.int .i64 L[i].2.2)
  | [], i, hi => absurd hi (Nat.not_lt_zero i)
  | x :: r, 0, _ => by simp [flatH, heldC]
  | x :: r, i + 1, hi => by
    have h := flatH_at r i (by simpa using hi)
    have e : flatH (x :: r) = (heldC x).toList ++ flatH r := rfl
    have hl : (heldC x).toList.length = 3 := rfl
    rw [e, List.getElem_cons_succ]
    refine ⟨?_, ?_, ?_⟩
    · rw [List.getElem?_append_right (by omega), show (i + 1) * 3 - (heldC x).toList.length = i * 3 by omega]; exact h.1
    · rw [List.getElem?_append_right (by omega), show (i + 1) * 3 + 1 - (heldC x).toList.length = i * 3 + 1 by omega]; exact h.2.1
    · rw [List.getElem?_append_right (by omega), show (i + 1) * 3 + 2 - (heldC x).toList.length = i * 3 + 2 by omega]; exact h.2.2
theorem rowH_cells {V : World} {base : Nat} {v : Value} {L : List HeldP} (h : V.ownsRow base 58 3 v L.length (flatH L)) : ∃ A c, v = .slice A L.length c ∧ (L.length = 0 ∨ ∃ gr, A = some ⟨gr, 0, none⟩ ∧ base ≤ gr ∧ gr < V.heap.size ∧ L.length ≤ c ∧ ∀ X : World, X.heap[gr]? = V.heap[gr]? → ∀ i (hi : i < L.length), X.cell? ⟨gr, i * 3, none⟩ = some (.int .i64 L[i].1) ∧ X.cell? ⟨gr, i * 3 + 1, none⟩ = some (.int .u32 L[i].2.1) ∧ X.cell? ⟨gr, i * 3 + 2, none⟩ = some (.int .i64 L[i].2.2)) := by
  rcases h.2 with ⟨h1, h2⟩ | ⟨gr, cap, cur, h1, h2, h3, h4, h5, h6, h7⟩
  · exact ⟨none, 0, by rw [h1, h2], .inl h2⟩
  · refine ⟨_, _, h1, .inr ⟨gr, rfl, h2, (Array.getElem?_eq_some_iff.1 h3).1, h4, fun X hX i hi => ?_⟩⟩
    have key : ∀ j z, (flatH L)[j]? = some z → X.cell? ⟨gr, j, none⟩ = some z := by
      intro j z hz
      have hj : j < L.length * 3 := by rw [← flatH_len]; exact (List.getElem?_eq_some_iff.1 hz).1
      rw [← h7, List.getElem?_take_of_lt hj, Array.getElem?_toList] at hz
      unfold World.cell?
      dsimp only
      rw [hX, h3]
      simp [hz]
    obtain ⟨a1, a2, a3⟩ := flatH_at L i hi
    exact ⟨key _ _ a1, key _ _ a2, key _ _ a3⟩
theorem infoH : (Try.prog.info? 58).map (fun i => (i.zero, i.size, i.bytes)) = some (some (.agg #[.int .i64 0, .int .u32 0, .int .i64 0]), 3, 24) := by kernel_rfl
theorem info_parts {P : Program} {t : TypeId} {z : Value} {s b : Nat} (h : (P.info? t).map (fun i => (i.zero, i.size, i.bytes)) = some (some z, s, b)) : ∃ i, P.info? t = some i ∧ i.zero = some z ∧ i.size = s ∧ i.bytes = b := by
  cases hi : P.info? t with
  | none => rw [hi] at h; cases h
  | some i =>
    rw [hi] at h
    injection h with h
    injection h with h1 h2
    injection h2 with h2 h3
    exact ⟨i, rfl, h1, h2, h3⟩
theorem rowH_own {V Y : World} {base n : Nat} {v : Value} {xs : List Value} {row : Option Nat} (h : V.ownsRow base 58 3 v n xs) (hg : V.grownBy Y row) (hr : ∀ r, row = some r → ∃ o : Obj, V.heap[r]? = some o ∧ o.isCells = false) : Y.ownsRow base 58 3 v n xs := by
  refine ⟨h.1, ?_⟩
  rcases h.2 with h2 | ⟨gr, cap, cur, h1, h2, h3, h4⟩
  · exact .inl h2
  · refine .inr ⟨gr, cap, cur, h1, h2, (hg.block gr (Array.getElem?_eq_some_iff.1 h3).1 (fun e => ?_)).trans h3, h4⟩
    obtain ⟨o, ho, hc⟩ := hr _ e.symm
    rw [h3] at ho
    cases ho
    cases hc
theorem rowH_set {V : World} {base n : Nat} {v v' : Value} {xs : List Value} {p : Addr} (h : V.ownsRow base 58 3 v n xs) (hp : p.block < base) : (V.setCell p v').ownsRow base 58 3 v n xs := by
  refine ⟨h.1, ?_⟩
  rcases h.2 with h2 | ⟨gr, cap, cur, h1, h2, h3, h4⟩
  · exact .inl h2
  · exact .inr ⟨gr, cap, cur, h1, h2, (Below.heap_setCell _ _ _ _ (by omega)).trans h3, h4⟩
theorem rowH_block {V : World} {base n : Nat} {v : Value} {xs : List Value} (h : V.ownsRow base 58 3 v n xs) : ∀ k, v.ownBlock = some k → base ≤ k ∧ ∃ cur, V.heap[k]? = some (.cells cur 58 (0, 0)) := by
  intro k hk
  rcases h.2 with ⟨h1, h2⟩ | ⟨gr, cap, cur, h1, h2, h3, h4⟩
  · rw [h1] at hk; cases hk
  · rw [h1] at hk
    injection hk with hk
    subst hk
    exact ⟨h2, cur, h3⟩
theorem grown_after {V U X : World} {row : Option Nat} (h : V.grownBy U none) (k : U.grownBy X row) : V.grownBy X row :=
  ⟨k.os.trans h.os, k.tape.trans h.tape, k.output.trans h.output, Nat.le_trans h.size k.size, fun i hi hn => (k.block i (Nat.lt_of_lt_of_le hi h.size) hn).trans (h.block i hi (by simp))⟩
theorem rowH_grow {X : World} {base j : Nat} {v' : Value} {pre : List HeldP} {xp xh xu : Int} (hj : pre.length = j) (h : X.ownsRow base 58 3 v' (j + 1) (flatH pre ++ [.int .i64 xp, .int .u32 xh, .int .i64 xu])) :
    ∃ A' c', v' = .slice A' (j + 1) c' ∧ X.ownsRow base 58 3 v' (pre ++ [(xp, xh, xu)]).length (flatH (pre ++ [(xp, xh, xu)])) := by
  have h2 : X.ownsRow base 58 3 v' (pre ++ [(xp, xh, xu)]).length (flatH (pre ++ [(xp, xh, xu)])) := by
    rw [flatH_snoc, List.length_append, hj]
    exact h
  obtain ⟨A', c', hv, _⟩ := rowH_cells h2
  rw [List.length_append, hj] at hv
  exact ⟨A', c', hv, h2⟩
theorem boxed_own2 {X Y : World} {B t : Nat} {v : Value} {row : Option Nat} (h : Boxed X B t v) (hg : X.grownBy Y row) (hr : ∀ r, row = some r → ∃ o : Obj, X.heap[r]? = some o ∧ o.isCells = false) : Boxed Y B t v :=
  h.kept hg (fun e => by obtain ⟨o, ho, hc⟩ := hr _ e.symm; have h3' : X.heap[B]? = _ := h; rw [h3'] at ho; cases ho; cases hc)
theorem row_cells {V : World} {base m c : Nat} {A : Option Addr} {L : List HeldP} (h : V.ownsRow base 3 1 (.slice A m c) L.length ((L.map (·.1)).map encZ)) : L.length = 0 ∨ ∃ gr, A = some ⟨gr, 0, none⟩ ∧ base ≤ gr ∧ gr < V.heap.size ∧ ∀ X : World, X.heap[gr]? = V.heap[gr]? → ∀ i (hi : i < L.length), X.cell? ((⟨gr, 0, none⟩ : Addr).add i) = some (.int .i64 L[i].1) := by
  rcases h.2 with ⟨_, h2⟩ | ⟨gr, cap, cur, h1, h2, h3, h4, h5, h6, h7⟩
  · exact .inl h2
  · injection h1 with h1 _ _
    refine .inr ⟨gr, h1, h2, (Array.getElem?_eq_some_iff.1 h3).1, fun X hX i hi => ?_⟩
    have hc : cur.toList[i]? = some (.int .i64 L[i].1) := by
      have : (cur.toList.take (L.length * 1))[i]? = some (.int .i64 L[i].1) := by
        rw [h7]
        simp [hi, encZ]
      rw [List.getElem?_take_of_lt (by omega)] at this
      exact this
    rw [Go.Proofs.YteajlffchdbkjaaW.PrintWords.add_plain]
    unfold World.cell?
    dsimp only
    rw [hX, h3]
    rw [Array.getElem?_toList] at hc
    simp [hc]
theorem own_lower {w : World} {base base' : Nat} {e : TypeId} {size : Nat} {v : Value} {n : Nat} {xs : List Value} (h : w.ownsRow base e size v n xs) (hb : base' ≤ base) : w.ownsRow base' e size v n xs := by
  refine ⟨h.1, h.2.imp id ?_⟩
  rintro ⟨gr, cap, cur, h1, h2, h3⟩
  exact ⟨gr, cap, cur, h1, Nat.le_trans hb h2, h3⟩
set_option maxRecDepth 100000 in
set_option maxHeartbeats 4000000 in
theorem appseqH_calls (w : World) (base p1 p2 b2 n : Nat) (L : List HeldP) (hA : AllAt base w p1 p2 b2 n L) (hr : Ris L) (hl : L.length ≤ 10000) (hI : ∀ q ∈ L, I64 q.1) :
    Calls Try.prog 60 #[.slice none 0 0, .func (.func 64) #[] #[.pointer (some ⟨p1, 0, none⟩), .pointer (some ⟨p2, 0, none⟩)]] w fun e w' => ∃ v, e = .returned v ∧ w'.ownsRow w.heap.size 58 3 v L.length (flatH L) ∧ Below w.heap.size w w' := by
  obtain ⟨A, m, c, a1, hm, hrow, a2, hown, hp1, hp2, hb2⟩ := hA
  subst hm
  have hp1l : p1 < w.heap.size := World.block_lt_of_cell? _ _ a1
  have hp2l : p2 < w.heap.size := World.block_lt_of_cell? _ _ a2
  have hb2l := hown.lt
  obtain ⟨W0, hW0⟩ : ∃ W0, w.alloc (.cells #[.slice none 0 0] 44) = W0 := ⟨_, rfl⟩
  have hbw : Below w.heap.size w W0 := by rw [← hW0]; exact (Below.refl _ _).alloc (Nat.le_refl _) _
  have hs0 : W0.heap.size = w.heap.size + 1 := by rw [← hW0]; simp
  have B0 : Boxed W0 w.heap.size 44 (.slice none 0 0) := by rw [← hW0]; exact Boxed.new w _ _
  have e1 : W0.cell? ⟨p1, 0, none⟩ = some (.slice A L.length c) := (hbw.cell (p := ⟨p1, 0, none⟩) hp1l).trans a1
  have e2 : W0.cell? ⟨p2, 0, none⟩ = some (.map (some b2)) := (hbw.cell (p := ⟨p2, 0, none⟩) hp2l).trans a2
  have ho0 : W0.ownsMap Try.prog 3 heldR b2 n (encL L) := by
    obtain ⟨es, clock, hb, Ft⟩ := hown
    exact ⟨es, clock, (hbw.block b2 hb2l).trans hb, Ft⟩
  have hrc := row_cells hrow
  obtain ⟨S, hS⟩ : ∃ S : Nat → Prop, S = fun b => b < w.heap.size := ⟨_, rfl⟩
  have hSlt : ∀ b, S b → b < W0.heap.size := fun b hb => by rw [hS] at hb; omega
  have hSn : ¬ S w.heap.size := by rw [hS]; exact Nat.lt_irrefl _
  have hSy : ∀ b, b < w.heap.size → S b := fun b h1 => by rw [hS]; exact h1
  have hSz : ∀ b, S b → b < w.heap.size := fun b hb => by rw [hS] at hb; exact hb
  clear hS
  have seq := all_told 7 (by omega) S p1 p2 b2 n A c L W0 (hSy p1 hp1l) (hSy p2 hp2l) (hSy b2 hb2l) hSlt e1 e2 ho0 hr (by omega) hI
    (fun V hV j hj => by
      rcases hrc with h0 | ⟨gr, hA, hgr, hgl, hX⟩
      · omega
      · exact ⟨_, hA, hX V ((hV.2 gr (hSy gr hgl)).trans (hbw.block gr hgl)) j hj⟩)
  have HBW := Lib.hid hbw
  have HB0 := Lib.hid B0
  have Hl := Lib.hid hl
  have HS0 := Lib.hid hs0
  clear hbw B0 hl a1 a2 hown hrow hrc e1 e2 ho0 hp1 hp2 hb2 hp1l hp2l hb2l hr hI hs0
  refine (callsIn_wide (n := 8)).1 ?_
  refine callsIn_of_wp_marks Try.func60 rfl trivial (wpIn_wide.2 ?_) rfl
  simp only [Try.ntmps60, List.size_toArray, List.length_cons, List.length_nil, Nat.reduceAdd, Nat.reduceSub, Array.replicate_succ, Array.replicate_zero, List.push_toArray, List.append_toArray, List.nil_append, List.cons_append]
  go_wp2
  clear hW0
  refine (wpIn_wide (n := 8)).1 ?_
  refine range_told_box rfl (by omega) (gf := 64) (lb := #[.pointer (some ⟨p1, 0, none⟩), .pointer (some ⟨p2, 0, none⟩)]) rfl trivial (enters_of Try.func64 (by kernel_rfl) rfl)
    seq KeepS.trans (fun W l o o' hl h _ _ => KeepS.put W l o o' (fun hb => by have := hSlt l hb; omega) h) (Below.refl _ _) (fun _ => rfl) (fun _ _ _ _ _ _ _ _ h => h)
    (fun q => .cells (heldC q) 58) (fun V q hV => KeepS.below ((Below.refl _ V).alloc (Nat.le_refl _) _) (fun b hb => by have := hSlt b hb; omega)) (fun _ _ _ h => h)
    (fun pre V => KeepS S W0 V ∧ (∃ v, Boxed V w.heap.size 44 v ∧ V.ownsRow W0.heap.size 58 3 v pre.length (flatH pre)) ∧ Below w.heap.size w V)
    ?hI1 ?h01 ?a11 ?assign1 ?body1 ?done1
  case assign1 =>
    intro l x W B K hB hK
    dsimp only [encsH, heldC] at hK ⊢
    gi_wp2
    exact hK
  case hI1 =>
    rintro s X Y row ⟨h1, ⟨v, h3, h4⟩, h5⟩ hg hr
    exact ⟨h1.grown hSlt hg (fun r e hb => by have := (hr r e).1; have := hSlt r hb; omega), ⟨v, boxed_own2 h3 hg (fun r e => (hr r e).2), rowH_own h4 hg (fun r e => (hr r e).2)⟩, h5.grown hg h5.size (fun k e => by have := (hr k e).1; have := HBW.out.size; omega)⟩
  case h01 => exact ⟨KeepS.refl _ _, ⟨_, HB0.out, rfl, .inl ⟨rfl, rfl⟩⟩, HBW.out⟩
  case body1 =>
    rintro lp pre x B V hB hbx ⟨hk, ⟨v, b10, hrow⟩, hbl⟩ ⟨r, hr⟩
    have hpl : pre.length < 10001 := by have h := congrArg List.length hr; rw [List.length_append, List.length_cons] at h; have := Hl.out; omega
    obtain ⟨Av, cv, hv, _⟩ := rowH_cells hrow
    obtain ⟨j, hj⟩ : ∃ j, pre.length = j := ⟨_, rfl⟩
    obtain ⟨xp, xh, xu⟩ := x
    rw [hj] at hv hrow hpl
    subst hv
    obtain ⟨i0', hi0, hz0, hsz0, hby0⟩ := info_parts infoH
    have HI0 := Lib.hid hi0
    have HZ0 := Lib.hid hz0
    have HS1 := Lib.hid hsz0
    have HY0 := Lib.hid hby0
    have HROW := Lib.hid hrow
    have HJ := Lib.hid hj
    have Hk := Lib.hid hk
    have HSn := Lib.hid hSn
    have HSl := Lib.hid hSlt
    have HBL := Lib.hid hbl
    have B10 := Lib.hid b10
    have c10 := b10.cell
    have f10 := b10.frozen
    obtain ⟨f0, f1, f2⟩ := held_cells hbx
    dsimp only at f0 f1 f2
    have HNEW := Lib.hid (show (V.alloc (.cells #[.int .i64 xp, .int .u32 xh, .int .i64 xu] 58)).heap[V.heap.size]? = some (.cells #[.int .i64 xp, .int .u32 xh, .int .i64 xu] 58 (0, 0)) from new_cellsN V _ _)
    have HGV := Lib.hid (show V.grownBy (V.alloc (.cells #[.int .i64 xp, .int .u32 xh, .int .i64 xu] 58)) none from World.grownBy_alloc V _ none)
    have HNE2 := Lib.hid (show w.heap.size < W0.heap.size ∧ W0.heap.size ≤ V.heap.size from ⟨by have := HS0.out; omega, hk.1⟩)
    have hpl2 : j ≤ 10000 := by omega
    clear hk hSn hSy hSlt seq hj b10 hbx hbl hr hpl hB hrow hi0 hz0 hsz0 hby0
    gi_wp2_with (gi_at_builtin; refine wpListIn_append_own _ rfl (.tmp 8) (.tmp 10) 44 rfl W0.heap.size 58 i0' (.agg #[.int .i64 0, .int .u32 0, .int .i64 0]) 3 24 Try.underlying44 HI0.out HZ0.out HS1.out HY0.out rfl (by decide) (.slice Av j cv) j (flatH pre) rfl (HROW.out.alloc _) ⟨V.heap.size, 0, none⟩ 1 1 [.int .i64 xp, .int .u32 xh, .int .i64 xu] rfl rfl (World.news_of_block HNEW.out) (by simp [Value.oneCell']) (by unfold maxLen; omega) (by omega) (by have := HNE2.out; simp; omega) ?_; intro v' w1' hown' hgrow _; obtain ⟨A', c', hv', hown2⟩ := rowH_grow HJ.out hown'; have hgv := grown_after HGV.out hgrow; subst hv'; have e10 := (hgv.block w.heap.size (by have := HNE2.out; omega) (fun e => by have := (rowH_block HROW.out _ e.symm).1; have := HNE2.out; omega)).trans B10.out; have E10 : Boxed w1' w.heap.size 44 (.slice Av j cv) := e10; have HE10 := Lib.hid E10; have c10 := E10.cell; have f10 := E10.frozen; have HOWN := Lib.hid hown2; have HGV2 := Lib.hid hgv; clear hown' hown2 hgrow hgv e10 E10)
    have hne2 := HNE2.out
    have hkS : KeepS S V w1' := ⟨HGV2.out.size, fun b hb => HGV2.out.block b (Nat.lt_of_lt_of_le (HSl.out b hb) hne2.2) (fun e => by have := (rowH_block HROW.out _ e.symm).1; have := HSl.out b hb; omega)⟩
    have hkS2 := hkS.trans (KeepS.setCell (p := ⟨w.heap.size, 0, none⟩) HSn.out (.slice A' (j + 1) c'))
    refine ⟨((KeepsOthers.of_grownBy HGV2.out (fun k o e hk => ?_)).trans (KeepsOthers.setCell _ _ _)).from _, hkS2, Hk.out.trans hkS2, ⟨_, HE10.out.set _, (by have h := rowH_set (v' := .slice A' (j + 1) c') (p := ⟨w.heap.size, 0, none⟩) HOWN.out (by show w.heap.size < _; omega); rw [List.length_append] at h; exact h)⟩, (HBL.out.grown HGV2.out HBL.out.size (fun k e => by have := (rowH_block HROW.out k e).1; omega)).setCell (p := ⟨w.heap.size, 0, none⟩) (Nat.le_refl _) _⟩
    obtain ⟨cur, hc⟩ := (rowH_block HROW.out k e).2
    rw [hc] at hk
    injection hk with hk
    rw [← hk]
    rfl
  case done1 =>
    rintro D1 xs V hD hxs ⟨hk, ⟨v, b10, hrow⟩, hbl⟩ hK2
    have hxs : xs = L := hxs
    rw [hxs] at hrow
    clear hxs
    have c9 := b10.cell
    have HR := Lib.hid hrow
    have HBL := Lib.hid hbl
    have HD := Lib.hid hD
    clear hk seq hrow hbl b10
    go_wp2
    refine ⟨by simp, .inl ⟨_, _, rfl, run_takeDeferred hK2, ?_⟩⟩
    refine ⟨v, ?_, v, rfl, ?_, ?_⟩
    · simp [results, Try.f60, go_sem]
    · exact own_lower (rowH_own HR.out (grownBy_putObj' V D1 _) (fun r e => by cases e; exact ⟨_, hK2, rfl⟩)) (by have := HS0.out; omega)
    · exact HBL.out.trans (belowK_b (w := w) (Nat.le_refl _) _ D1 _ _ (by have := HD.out; have := HS0.out; omega) hK2 rfl rfl)
end Go.Proofs.Yteajlffchdbkjaa.Rv
namespace Go.Proofs.Yteajlffchdbkjaa.Re
open Go.RowKit Go.Maps Go.Shelf Go.Proofs.Yteajlffchdbkjaa.Rv Go.Proofs.Yteajlffchdbkjaa.Ci Go.Proofs.Yteajlffchdbkjaa.Sp Go.Proofs.YteajlffchdbkjaaW.PrintWords Go.Proofs.YteajlffchdbkjaaW.PrintLast Go.Proofs.YteajlffchdbkjaaW.PrintMore
set_option linter.unusedVariables false
set_option linter.unusedSimpArgs false
attribute [local go_sem] Oper.semAt_some
theorem collectH_calls (w : World) (base p1 p2 b2 n : Nat) (L : List HeldP) (hA : AllAt base w p1 p2 b2 n L) (hr : Ris L) (hl : L.length ≤ 10000) (hI : ∀ q ∈ L, I64 q.1) :
    Calls Try.prog 35 #[.func (.func 64) #[] #[.pointer (some ⟨p1, 0, none⟩), .pointer (some ⟨p2, 0, none⟩)]] w fun e w' => ∃ v, e = .returned v ∧ w'.ownsRow w.heap.size 58 3 v L.length (flatH L) ∧ Below w.heap.size w w' := by
  have K := Lib.hid (appseqH_calls w base p1 p2 b2 n L hA hr hl hI)
  clear hA hr hl hI
  go_enter Try.func35, Try.ntmps35
  go_wp2_with (go_at_call 60; refine K.out.mono ?_; rintro e w1 ⟨v, rfl, hR, hb⟩; have HX := Lib.hid (And.intro hR hb); clear hR hb)
  go_ret
  exact ⟨v, rfl, HX.out⟩
def RallPost (w : World) (gR bR nR : Nat) (l : LimV) (R : List HeldP) (X Y : Ob) (av : Nat → Prop) (t : Int) (e : Ending) (w' : World) : Prop :=
  ∃ p1 p2 b2, e = .returned (.func (.func 64) #[] #[.pointer (some ⟨p1, 0, none⟩), .pointer (some ⟨p2, 0, none⟩)]) ∧ AllAt w.heap.size w' p1 p2 b2 nR (overL R t) ∧ Sep w' [obR gR bR nR l (overL R t) t, X, Y] av ∧ KpA av w w'
theorem rall_sep {w : World} {gR bR nR : Nat} {l : LimV} {R : List HeldP} {tR : Int} {X Y : Ob} {av : Nat → Prop} (h : Sep w [obR gR bR nR l R tR, X, Y] av) {t : Int} (hr : Ris R) (hl : R.length ≤ 1000000) (h1 : tR ≤ t) (h2 : t ≤ 1099511627776) :
    Calls Try.prog 36 #[.pointer (some ⟨gR, 0, none⟩), .int .i64 t] w (RallPost w gR bR nR l R X Y av t) := by
  obtain ⟨_, hT, _⟩ := Sep.head h
  have K := all_calls w gR bR nR l R tR t hT hr hl
  rw [onT_ok h1 h2] at K
  refine K.mono ?_
  rintro e w' ⟨p1, p2, b2, rfl, hA, hT', ht⟩
  have h2 := touch_turn h hT' ht
  exact ⟨p1, p2, b2, rfl, hA, h2.1, h2.2⟩
def CallPost (w : World) (gC : Nat) (l : LimV) (C G : List CirP) (last : Int) (X Y : Ob) (av : Nat → Prop) (t : Int) (e : Ending) (w' : World) : Prop :=
  ∃ v sz, e = .returned v ∧ Sep w' [X, Y, obC gC l (liveC C t) (G ++ goneC C t) last t] (fun k => av k ∨ (sz ≤ k ∧ k < w'.heap.size)) ∧ w.heap.size ≤ sz ∧ w'.ownsRow sz 50 6 v (liveC C t).length (flatC (liveC C t)) ∧ KpA av w w'
theorem call_sep {w : World} {gC : Nat} {l : LimV} {C G : List CirP} {last tC : Int} {X Y : Ob} {av : Nat → Prop} (h : Sep w [X, Y, obC gC l C G last tC] av) {t : Int} (hl : (G.length + C.length + 1) * 48 ≤ 140737488355328) (hm : C.length ≤ 1000000) (h1 : tC ≤ t) (h2 : t ≤ 1099511627776) :
    Calls Try.prog 37 #[.pointer (some ⟨gC, 0, none⟩), .int .i64 t] w (CallPost w gC l C G last X Y av t) := by
  obtain ⟨ok, ⟨vl, vg, hC, hok⟩, hlt, h3, h4⟩ := rot3 h
  have K := call_calls w gC vl vg l C G last tC t hC hl hm
  rw [onT_ok h1 h2] at K
  refine K.mono ?_
  rintro e w' ⟨v, vl', vg', sz, he, hC', hn, hs1, hs2, hrow, hk⟩
  have ht := turn_core (X' := obC gC l (liveC C t) (G ++ goneC C t) last t) (w1 := w') (ex := fun k => sz ≤ k ∧ k < w'.heap.size) (ok' := fun k => ok k ∨ okC gC vl' vg' k) hlt h3 h4
    ⟨vl', vg', hC', fun k hk' => .inr hk'⟩ (fun k hk' => hk'.elim .inl (fun e => (hn k e).imp (hok k) id)) (fun k hk' => hk'.elim (fun e => Nat.lt_of_lt_of_le (hlt k e) hk.2.2.2.1) (hC'.lt k))
    ⟨hk.2.2.2.1, fun b hb hn' => hk.2.2.2.2 b hb (fun e => hn' (hok b e))⟩ (fun k e => ⟨Nat.le_trans hs2 e.1, e.2, fun hh => hh.elim (fun a => by have := hlt k a; have := e.1; omega) (fun a => by have := hs1 k a; have := e.1; omega)⟩)
  exact ⟨v, sz, he, rot3 (rot3 ht.1), hs2, hrow, hk.1, hk.2.1, hk.2.2.1, hk.2.2.2.1, ht.2⟩
def StF (s : RelS) (t : Int) : RelS := { s with now := t, R := overL s.R t, tR := t, C := liveC s.C t, G := s.G ++ goneC s.C t, tC := t }
def StatePost (W : World) (base r gN gR bR nR gC : Nat) (s : RelS) (av : Nat → Prop) (t : Int) (e : Ending) (w' : World) : Prop :=
  ∃ v1 v2 sz, e = .returned (.tuple #[v1, v2]) ∧ w'.ownsRow sz 58 3 v1 (overL s.R t).length (flatH (overL s.R t)) ∧ w'.ownsRow sz 50 6 v2 (liveC s.C t).length (flatC (liveC s.C t)) ∧ W.heap.size ≤ sz ∧
    RelW w' base r gN gR bR nR gC (StF s t) (fun k => av k ∨ (v1.ownBlock = some k ∨ v2.ownBlock = some k)) ∧ KpA av W w'
theorem rinv_st {k : Nat} {s : RelS} (h : RInv k s) {t : Int} (h4 : s.now ≤ t) (h5 : t ≤ 1099511627776) : RInv k (StF s t) := by
  have hlg := live_gone s.C t
  have hc := h.clen
  exact ⟨h.own, h.may, ris_filter h.ris _, Nat.le_trans (overL_len _ _) h.rlen, fun q hq => h.rok q (overL_mem hq).1, by show (s.G ++ goneC s.C t).length + (liveC s.C t).length ≤ k; rw [List.length_append]; omega, h.last, fun c hc => h.cok c (liveC_mem hc).1, h.nlen, Int.le_refl t, Int.le_refl t, ⟨Int.le_trans h.now.1 h4, h5⟩⟩
set_option maxRecDepth 100000 in
set_option maxHeartbeats 4000000 in
theorem rstate_calls (W : World) (base r gN gR bR nR gC k : Nat) (s : RelS) (av : Nat → Prop) (t : Int) (h : RelW W base r gN gR bR nR gC s av) (hi : RInv k s) (hk : k ≤ 10000) (h4 : s.now ≤ t) (h5 : t ≤ 1099511627776) :
    Calls Try.prog 16 #[.pointer (some ⟨r, 0, none⟩), .int .i64 t] W (StatePost W base r gN gR bR nR gC s av t) := by
  have hr := h.rel
  have KO := Lib.hid (ron_yes W r _ gN gR gC _ t hr h4 h5)
  obtain ⟨W1, hW1⟩ : ∃ X, W.setCell ⟨r, 4, none⟩ (.int .i64 t) = X := ⟨_, rfl⟩
  have h1 := h.on t
  rw [hW1] at h1 KO
  have HR1 := Lib.hid h1
  have hr1 := h1.1.rel
  obtain ⟨_, _, e2, e3, _⟩ := relC_cells hr1
  have HREL := Lib.hid hr1
  have hb0 : (s.G.length + s.C.length + 1) * 48 ≤ 140737488355328 := Nat.le_trans (Nat.mul_le_mul_right 48 (Nat.succ_le_succ (Nat.le_trans hi.clen hk))) (by decide)
  have HL1 := Lib.hid hb0
  have HL2 := Lib.hid (show s.C.length ≤ 1000000 from Nat.le_trans (Nat.le_add_left _ _) (Nat.le_trans hi.clen (Nat.le_trans hk (by decide))))
  have HI := Lib.hid hi
  have HT := Lib.hid (show s.tR ≤ t ∧ s.tC ≤ t ∧ t ≤ 1099511627776 from ⟨Int.le_trans hi.tR h4, Int.le_trans hi.tC h4, h5⟩)
  have HRL := Lib.hid (show (overL s.R t).length ≤ 10000 ∧ Ris (overL s.R t) ∧ ∀ q ∈ overL s.R t, I64 q.1 from ⟨Nat.le_trans (overL_len _ _) (Nat.le_trans hi.rlen hk), ris_filter hi.ris _, fun q hq => by have := hi.rok q (overL_mem hq).1; unfold I64; omega⟩)
  have HRK := Lib.hid (show s.R.length ≤ 1000000 from Nat.le_trans hi.rlen (Nat.le_trans hk (by decide)))
  clear h hi h4 h5 hr h1 hW1 hr1 hb0
  go_enter Try.func16, Try.ntmps16
  go_upto_region 3 with (go_at_call 26; refine KO.out.mono ?_; rintro e w1 ⟨rfl, rfl⟩)
  refine wp_region_held_drew (S := fun w' => w'.cell? ⟨r, 2, none⟩ = some (.pointer (some ⟨gR, 0, none⟩)) ∧ w'.cell? ⟨r, 3, none⟩ = some (.pointer (some ⟨gC, 0, none⟩))) (by kernel_rfl) ?_ (fun hHeld => ?_)
  · exact ⟨e2, e3⟩
  refine wpAnyH_take (i := 0) (v := ?_) rfl (by kernel_rfl) (by kernel_rfl) (by kernel_rfl) (fun _ _ _ h => h) (Or.inl ⟨by rfl, ?_⟩) (by assumption) ?_
  rotate_left
  · (intro w hSw; (try dsimp only at hSw); go_simp; try with_reducible rfl)
  try simp only [Act.put, List.setIfInBounds_toArray, List.set_cons_zero, List.set_cons_succ, List.getElem_toArray, List.getElem_cons_succ, List.getElem_cons_zero]
  refine wpAnyH_take (i := 1) (v := ?_) rfl (by kernel_rfl) (by kernel_rfl) (by kernel_rfl) (fun _ _ _ h => h) (Or.inl ⟨by rfl, ?_⟩) (by assumption) ?_
  rotate_left
  · (intro w hSw; (try dsimp only at hSw); go_simp; try with_reducible rfl)
  try simp only [Act.put, List.setIfInBounds_toArray, List.set_cons_zero, List.set_cons_succ, List.getElem_toArray, List.getElem_cons_succ, List.getElem_cons_zero]
  refine wpAnyH_take (i := 2) (v := ?_) rfl (by kernel_rfl) (by kernel_rfl) (by kernel_rfl) (fun _ _ _ h => h) (Or.inl ⟨by rfl, ?_⟩) (by assumption) ?_
  rotate_left
  · (intro w hSw; (try dsimp only at hSw); go_simp; try with_reducible rfl)
  try simp only [Act.put, List.setIfInBounds_toArray, List.set_cons_zero, List.set_cons_succ, List.getElem_toArray, List.getElem_cons_succ, List.getElem_cons_zero]
  refine wpAnyH_take (i := 3) (v := ?_) rfl (by kernel_rfl) (by kernel_rfl) (by kernel_rfl) (fun _ _ _ h => h) (Or.inl ⟨by rfl, ?_⟩) (by assumption) ?_
  rotate_left
  · (intro w hSw; (try dsimp only at hSw); go_simp; try with_reducible rfl)
  try simp only [Act.put, List.setIfInBounds_toArray, List.set_cons_zero, List.set_cons_succ, List.getElem_toArray, List.getElem_cons_succ, List.getElem_cons_zero]
  refine wpAnyH_take (i := 4) (v := ?_) rfl (by kernel_rfl) (by kernel_rfl) (by kernel_rfl) (fun _ _ _ h => h) (Or.inl ⟨by rfl, ?_⟩) (by assumption) ?_
  rotate_left
  · (intro w hSw; (try dsimp only at hSw); go_simp; try with_reducible rfl)
  try simp only [Act.put, List.setIfInBounds_toArray, List.set_cons_zero, List.set_cons_succ, List.getElem_toArray, List.getElem_cons_succ, List.getElem_cons_zero]
  refine wpAnyH_take (i := 7) (v := ?_) rfl (by kernel_rfl) (by kernel_rfl) (by kernel_rfl) (fun _ _ _ h => h) (Or.inl ⟨by rfl, ?_⟩) (by assumption) ?_
  rotate_left
  · (intro w hSw; (try dsimp only at hSw); go_simp; try with_reducible rfl)
  try simp only [Act.put, List.setIfInBounds_toArray, List.set_cons_zero, List.set_cons_succ, List.getElem_toArray, List.getElem_cons_succ, List.getElem_cons_zero]
  refine wpAnyH_take (i := 8) (v := ?_) rfl (by kernel_rfl) (by kernel_rfl) (by kernel_rfl) (fun _ _ _ h => h) (Or.inl ⟨by rfl, ?_⟩) (by assumption) ?_
  rotate_left
  · (intro w hSw; (try dsimp only at hSw); go_simp; try with_reducible rfl)
  try simp only [Act.put, List.setIfInBounds_toArray, List.set_cons_zero, List.set_cons_succ, List.getElem_toArray, List.getElem_cons_succ, List.getElem_cons_zero]
  refine wpAnyH_take (i := 9) (v := ?_) rfl (by kernel_rfl) (by kernel_rfl) (by kernel_rfl) (fun _ _ _ h => h) (Or.inl ⟨by rfl, ?_⟩) (by assumption) ?_
  rotate_left
  · (intro w hSw; (try dsimp only at hSw); go_simp; try with_reducible rfl)
  try simp only [Act.put, List.setIfInBounds_toArray, List.set_cons_zero, List.set_cons_succ, List.getElem_toArray, List.getElem_cons_succ, List.getElem_cons_zero]
  refine wpAnyH_take (i := 10) (v := ?_) rfl (by kernel_rfl) (by kernel_rfl) (by kernel_rfl) (fun _ _ _ h => h) (Or.inl ⟨by rfl, ?_⟩) (by assumption) ?_
  rotate_left
  · (intro w hSw; (try dsimp only at hSw); go_simp; try with_reducible rfl)
  try simp only [Act.put, List.setIfInBounds_toArray, List.set_cons_zero, List.set_cons_succ, List.getElem_toArray, List.getElem_cons_succ, List.getElem_cons_zero]
  refine wpAnyH_take (i := 11) (v := ?_) rfl (by kernel_rfl) (by kernel_rfl) (by kernel_rfl) (fun _ _ _ h => h) (Or.inl ⟨by rfl, ?_⟩) (by assumption) ?_
  rotate_left
  · (intro w hSw; (try dsimp only at hSw); go_simp; try with_reducible rfl)
  try simp only [Act.put, List.setIfInBounds_toArray, List.set_cons_zero, List.set_cons_succ, List.getElem_toArray, List.getElem_cons_succ, List.getElem_cons_zero]
  refine wpAnyH_ready (rs := [5]) (by kernel_rfl) (by simp) ?_
  refine AllReadyH.cons rfl (fun K hK => ?_) AllReadyH.nil
  go_simp
  go_at_call 36; refine (rall_sep (w := W1.drew) (HR1.out.1.tail.step' (drew_below W1)) (t := t) HI.out.ris HRK.out HT.out.1 HT.out.2.2).mono ?_; rintro e w2 ⟨p1, p2, b2, rfl, hA, hs2, hk2⟩; have HA := Lib.hid hA; have HS2 := Lib.hid hs2; have HK2 := Lib.hid hk2; have hr2 := (hk2.2.2.2.2 r (.inr rfl)).trans HREL.out; have HRL2 := Lib.hid hr2; have hc2 := relC_cells hr2; clear hA hs2 hk2 hr2
  refine hK.out _ _ ?_ (fun hHeld => ?_)
  · exact ⟨hc2.2.2.1, hc2.2.2.2.1⟩
  clear hK K
  try simp only [Act.put, List.setIfInBounds_toArray, List.set_cons_zero, List.set_cons_succ, List.getElem_toArray, List.getElem_cons_succ, List.getElem_cons_zero]
  refine wpAnyH_ready (rs := [6]) (by kernel_rfl) (by simp) ?_
  refine AllReadyH.cons rfl (fun K hK => ?_) AllReadyH.nil
  go_simp
  go_at_call 35; refine (collectH_calls _ _ p1 p2 b2 nR (overL s.R t) HA.out HRL.out.2.1 HRL.out.1 HRL.out.2.2).mono ?_; rintro e w3 ⟨v1, rfl, ho3, hb3⟩; have HO3 := Lib.hid ho3; have HB3 := Lib.hid hb3; have hr3 := (hb3.block r (HS2.out.lt r (.inr rfl))).trans HRL2.out; have HRL3 := Lib.hid hr3; have hc3 := relC_cells hr3; clear ho3 hb3 hr3
  refine hK.out _ _ ?_ (fun hHeld => ?_)
  · exact ⟨hc3.2.2.1, hc3.2.2.2.1⟩
  clear hK K
  try simp only [Act.put, List.setIfInBounds_toArray, List.set_cons_zero, List.set_cons_succ, List.getElem_toArray, List.getElem_cons_succ, List.getElem_cons_zero]
  refine wpAnyH_ready (rs := [12]) (by kernel_rfl) (by simp) ?_
  refine AllReadyH.cons rfl (fun K hK => ?_) AllReadyH.nil
  go_simp
  go_at_call 37; refine (call_sep (HS2.out.step HB3.out) (t := t) HL1.out HL2.out HT.out.2.1 HT.out.2.2).mono ?_; rintro e w4 ⟨v2, sz, rfl, hs4, hz4, ho4, hk4⟩; have HS4 := Lib.hid hs4; have HZ4 := Lib.hid hz4; have HO4 := Lib.hid ho4; have HK4 := Lib.hid hk4; have hr4 := (hk4.2.2.2.2 r (.inl (.inr rfl))).trans HRL3.out; have hc4 := relC_cells hr4; clear hs4 hz4 ho4 hk4 hr4
  refine hK.out _ _ ?_ (fun hHeld => ?_)
  · exact ⟨hc4.2.2.1, hc4.2.2.2.1⟩
  clear hK K
  try simp only [Act.put, List.setIfInBounds_toArray, List.set_cons_zero, List.set_cons_succ, List.getElem_toArray, List.getElem_cons_succ, List.getElem_cons_zero]
  refine wpAnyH_take (i := 13) (v := ?_) rfl (by kernel_rfl) (by kernel_rfl) (by kernel_rfl) (fun _ _ _ h => h) (Or.inl ⟨by rfl, ?_⟩) (by assumption) ?_
  rotate_left
  · (intro w hSw; (try dsimp only at hSw); go_simp; try with_reducible rfl)
  try simp only [Act.put, List.setIfInBounds_toArray, List.set_cons_zero, List.set_cons_succ, List.getElem_toArray, List.getElem_cons_succ, List.getElem_cons_zero]
  refine wpAnyH_take (i := 14) (v := ?_) rfl (by kernel_rfl) (by kernel_rfl) (by kernel_rfl) (fun _ _ _ h => h) (Or.inl ⟨by rfl, ?_⟩) (by assumption) ?_
  rotate_left
  · (intro w hSw; (try dsimp only at hSw); go_simp; try with_reducible rfl)
  try simp only [Act.put, List.setIfInBounds_toArray, List.set_cons_zero, List.set_cons_succ, List.getElem_toArray, List.getElem_cons_succ, List.getElem_cons_zero]
  refine wpAnyH_done (by kernel_rfl) ?_ _
  go_wp2
  refine bodyPost_ret (v := .tuple #[v1, v2]) (by simp [results, Try.results16, go_sem]) rfl ?_
  have hk2 : KpA (fun k => av k ∨ k = r) W1 w2 := HK2.out
  have hk3 : KpA (fun k => av k ∨ k = r) W1 w3 := hk2.trans (KpA.below (av := fun k => av k ∨ k = r) HB3.out (fun i hi => HS2.out.lt i hi)) (fun _ e => e)
  have hk4 : KpA (fun k => av k ∨ k = r) W1 w4 := hk3.trans HK4.out (fun _ e => .inl e)
  have h12 := hk2.2.2.2.1
  have h23 := HB3.out.size
  have h34 := HK4.out.2.2.2.1
  have hrl : r < W1.heap.size := (Array.getElem?_eq_some_iff.1 HREL.out).1
  have hv1 : ∀ b, v1.ownBlock = some b → w2.heap.size ≤ b ∧ b < w3.heap.size := fun b hb => ⟨(rowH_block HO3.out b hb).1, own_lt HO3.out hb⟩
  have hv2 : ∀ b, v2.ownBlock = some b → sz ≤ b ∧ b < w4.heap.size := fun b hb => ⟨by
    obtain ⟨_, ⟨h1, _⟩ | ⟨gr, cap, cur, h1, h2, _⟩⟩ := HO4.out
    · rw [h1] at hb; cases hb
    · rw [h1] at hb; injection hb with hb; subst hb; exact h2, own_lt HO4.out hb⟩
  have ho1 : w4.ownsRow w2.heap.size 58 3 v1 (overL s.R t).length (flatH (overL s.R t)) := own_stays HO3.out (fun b hb => HK4.out.2.2.2.2 b (.inr (hv1 b hb)))
  have hz := HZ4.out
  refine ⟨v1, v2, w2.heap.size, rfl, ho1, own_lower HO4.out (by omega), Nat.le_trans HR1.out.2.2.2.2.1 h12, ?_, HR1.out.2.trans hk4 (fun _ e => .inl e)⟩
  refine HR1.out.1.back (s' := StF s t) (ex := fun k => v1.ownBlock = some k ∨ v2.ownBlock = some k) (hk4.2.2.2.2 r (.inr rfl)) rfl rfl (HS4.out.sub (fun k hk => ?_)) (fun k hk e => ?_)
  · rcases hk with hk | hk | hk
    · exact .inl (.inl hk)
    · exact .inl (.inr (hv1 k hk))
    · exact .inr (hv2 k hk)
  · rcases hk with hk | hk
    · have := hv1 k hk; omega
    · have := hv2 k hk; omega
end Go.Proofs.Yteajlffchdbkjaa.Re
