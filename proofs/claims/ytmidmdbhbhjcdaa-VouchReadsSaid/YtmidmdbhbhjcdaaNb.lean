/-
  A notary, and the reference's notary beside it: what each call leaves. No condition but the texts' bounds.
-/
import Derived.Test.YtmidmdbhbhjcdaaNrM
import Derived.Lib.SlBytesConst
namespace Go.Proofs.Ytmidmdbhbhjcdaa.Nt
open Go.RowKit Go.Maps Go.Proofs.YtmidmdbhbhjcdaaW.PrintWords Go.Proofs.YtmidmdbhbhjcdaaW.PrintLast Go.Proofs.YtmidmdbhbhjcdaaW.PrintMore
set_option linter.unusedVariables false
set_option linter.unusedSimpArgs false

/-- A notary alone: it holds L; its blocks are new since base; none is one of av's. -/
def OneAt (w : World) (base : Nat) (g : Nat) (L : List Ent) (av : Nat → Prop) : Prop := ∃ ok, NotAt w base ok g L ∧ (∀ k, ok k → k < w.heap.size) ∧ ∀ k, av k → k < w.heap.size ∧ ¬ ok k
theorem OneAt.sub {w : World} {base g : Nat} {L : List Ent} {av av' : Nat → Prop} (h : OneAt w base g L av) (hs : ∀ k, av' k → av k) : OneAt w base g L av' := by
  obtain ⟨ok, h1, h2, h3⟩ := h
  exact ⟨ok, h1, h2, fun k hk => h3 k (hs k hk)⟩
theorem OneAt.step {w w1 : World} {base g : Nat} {L : List Ent} {av : Nat → Prop} (h : OneAt w base g L av) (hb : Below w.heap.size w w1) : OneAt w1 base g L (fun k => av k ∨ (w.heap.size ≤ k ∧ k < w1.heap.size)) := by
  obtain ⟨ok, h1, h2, h3⟩ := h
  exact ⟨ok, h1.step (fun k _ hk => hb.block k hk), fun k hk => Nat.lt_of_lt_of_le (h2 k hk) hb.size, fun k hk => hk.elim (fun a => ⟨Nat.lt_of_lt_of_le (h3 k a).1 hb.size, (h3 k a).2⟩) (fun a => ⟨a.2, fun ho => by have := h2 k ho; omega⟩)⟩
theorem OneAt.step' {w w1 : World} {base g : Nat} {L : List Ent} {av : Nat → Prop} (h : OneAt w base g L av) (hb : Below w.heap.size w w1) : OneAt w1 base g L av := (h.step hb).sub (fun k hk => .inl hk)
theorem OneAt.lower {w : World} {base base' g : Nat} {L : List Ent} {av : Nat → Prop} (h : OneAt w base g L av) (hb : base' ≤ base) : OneAt w base' g L av := by
  obtain ⟨ok, ⟨B, v, D, h1, ⟨h2, h3, h4, h4'⟩, h5, h6, h7, h8⟩, k2, k3⟩ := h
  exact ⟨ok, ⟨B, v, D, h1, ⟨h2, h3, by omega, by omega⟩, h5, h6, Kd.R_lower h7 hb, h8⟩, k2, k3⟩
theorem OneAt.fine {w : World} {base g : Nat} {L : List Ent} {av : Nat → Prop} (h : OneAt w base g L av) : ∀ x ∈ L, Nt.fine x := by
  obtain ⟨ok, ⟨B, v, D, _, _, _, _, _, h8⟩, _⟩ := h
  exact h8
theorem one_new (w : World) : Calls Try.prog 8 #[] w fun e w' => ∃ g, e = .returned (.pointer (some ⟨g, 0, none⟩)) ∧ OneAt w' w.heap.size g [] (fun k => k < w.heap.size) ∧ Below w.heap.size w w' :=
  (new_calls w).mono fun e w' ⟨g, he, h, hb⟩ => ⟨g, he, ⟨_, h, fun k hk => hk.2, fun k hk => ⟨Nat.lt_of_lt_of_le hk hb.size, fun ho => by omega⟩⟩, hb⟩
theorem one_mint (w : World) (base : Nat) (g : Nat) (L : List Ent) (av : Nat → Prop) (p : Int) (A : Option Addr) (c : Nat) (l : List Int) (h : OneAt w base g L av) (hb : base ≤ w.heap.size)
    (hr : Kd.C (Kd.int .u8) w A l.length l) (hc : l.length ≤ c) (hx : Nt.fine (p, l)) (hL : L.length ≤ 1000000) :
    Calls Try.prog 10 #[.pointer (some ⟨g, 0, none⟩), .int .i64 p, .slice A l.length c] w fun e w' => e = .returned (.tuple #[.int .u64 (mintF L p l).1, .int .i64 (mintF L p l).2.1]) ∧ OneAt w' base g (mintF L p l).2.2 av ∧ Below base w w' ∧ ∀ b, av b → w'.heap[b]? = w.heap[b]? := by
  obtain ⟨ok, h1, h2, h3⟩ := h
  exact (mint_calls w base (fun k => ok k ∨ w.heap.size ≤ k) g L p A c l (h1.mono (fun k hk => .inl hk)) (fun k hk => .inr hk) hb hr hc hx hL).mono fun e w' ⟨he, h4, h5, h6⟩ =>
    have hno : ∀ k, av k → ¬ (ok k ∨ w.heap.size ≤ k) := fun k hk e => e.elim (h3 k hk).2 (fun a => by have := (h3 k hk).1; omega)
    ⟨he, ⟨_, h4.bound, fun k hk => hk.2.2, fun k hk => ⟨Nat.lt_of_lt_of_le (h3 k hk).1 h6.1, fun a => hno k hk a.1⟩⟩, h5, fun b hb => h6.2 b (h3 b hb).1 (hno b hb)⟩
theorem one_check (w : World) (base : Nat) (g : Nat) (L : List Ent) (av : Nat → Prop) (p : Int) (A : Option Addr) (c : Nat) (l : List Int) (tag : Int) (h : OneAt w base g L av) (hr : Kd.C (Kd.int .u8) w A l.length l) (hc : l.length ≤ c) (hx : Nt.fine (p, l)) (hL : L.length ≤ 1000000) (ht : 0 ≤ tag ∧ tag ≤ 18446744073709551615) :
    Calls Try.prog 33 #[.pointer (some ⟨g, 0, none⟩), .int .i64 p, .slice A l.length c, .int .u64 tag] w fun e w' => e = .returned (.int .i64 (checkF L p l tag)) ∧ ∃ n, w' = w.drewN n := by
  obtain ⟨ok, h1, h2⟩ := h
  exact check_calls w base ok g L p A c l tag h1 hr hc hx hL ht
theorem one_count (w : World) (base : Nat) (g : Nat) (L : List Ent) (av : Nat → Prop) (h : OneAt w base g L av) : Calls Try.prog 18 #[.pointer (some ⟨g, 0, none⟩)] w fun e w' => e = .returned (.int .i64 L.length) ∧ w = w' := by
  obtain ⟨ok, h1, h2⟩ := h
  exact count_calls w base ok g L h1

/-! ### the two side by side -/
def TwoAt (w : World) (base : Nat) (g : Nat) (L : List Ent) (r : Nat) (M : List Ent) (av : Nat → Prop) : Prop :=
  ∃ okN okR, NotAt w base okN g L ∧ RefAt w base okR r M ∧ (∀ k, okN k → ¬ okR k) ∧ (∀ k, okN k → k < w.heap.size) ∧ (∀ k, okR k → k < w.heap.size) ∧ ∀ k, av k → k < w.heap.size ∧ ¬ okN k ∧ ¬ okR k
theorem TwoAt.sub {w : World} {base g r : Nat} {L M : List Ent} {av av' : Nat → Prop} (h : TwoAt w base g L r M av) (hs : ∀ k, av' k → av k) : TwoAt w base g L r M av' := by
  obtain ⟨okN, okR, h1, h2, h3, h4, h5, h6⟩ := h
  exact ⟨okN, okR, h1, h2, h3, h4, h5, fun k hk => h6 k (hs k hk)⟩
theorem TwoAt.step {w w1 : World} {base g r : Nat} {L M : List Ent} {av : Nat → Prop} (h : TwoAt w base g L r M av) (hb : Below w.heap.size w w1) : TwoAt w1 base g L r M (fun k => av k ∨ (w.heap.size ≤ k ∧ k < w1.heap.size)) := by
  obtain ⟨okN, okR, h1, h2, h3, h4, h5, h6⟩ := h
  exact ⟨okN, okR, h1.step (fun k _ hk => hb.block k hk), h2.step (fun k _ hk => hb.block k hk), h3, fun k hk => Nat.lt_of_lt_of_le (h4 k hk) hb.size, fun k hk => Nat.lt_of_lt_of_le (h5 k hk) hb.size,
    fun k hk => hk.elim (fun a => ⟨Nat.lt_of_lt_of_le (h6 k a).1 hb.size, (h6 k a).2⟩) (fun a => ⟨a.2, fun ho => by have := h4 k ho; omega, fun ho => by have := h5 k ho; omega⟩)⟩
theorem TwoAt.step' {w w1 : World} {base g r : Nat} {L M : List Ent} {av : Nat → Prop} (h : TwoAt w base g L r M av) (hb : Below w.heap.size w w1) : TwoAt w1 base g L r M av := (h.step hb).sub (fun k hk => .inl hk)
theorem TwoAt.start {w : World} {base g : Nat} {av : Nat → Prop} (h : OneAt w base g [] av) (hb : base ≤ w.heap.size) : TwoAt (w.alloc (.cells #[.slice none 0 0] 32)) base g [] w.heap.size [] av := by
  obtain ⟨ok, h1, h2, h3⟩ := h
  have hbl : Below w.heap.size w (w.alloc (.cells #[.slice none 0 0] 32)) := (Below.refl _ _).alloc (Nat.le_refl _) _
  exact ⟨ok, fun k => k = w.heap.size, h1.step (fun k _ hk => hbl.block k hk), ⟨.slice none 0 0, Boxed2 _ _ _, ⟨rfl, hb⟩, Kd.R_nil _ _ _ _ _⟩, fun k hk e => by have := h2 k hk; omega, fun k hk => by have := h2 k hk; simp; omega, fun k hk => by simp [hk], fun k hk => ⟨by have := (h3 k hk).1; simp; omega, (h3 k hk).2, fun e => by have := (h3 k hk).1; omega⟩⟩
theorem two_mint (w : World) (base : Nat) (g r : Nat) (L M : List Ent) (av : Nat → Prop) (p : Int) (A : Option Addr) (c : Nat) (l : List Int) (h : TwoAt w base g L r M av) (hb : base ≤ w.heap.size)
    (hr : Kd.C (Kd.int .u8) w A l.length l) (hc : l.length ≤ c) (hx : fine (p, l)) (hL : L.length ≤ 1000000) :
    Calls Try.prog 10 #[.pointer (some ⟨g, 0, none⟩), .int .i64 p, .slice A l.length c] w fun e w' => e = .returned (.tuple #[.int .u64 (mintF L p l).1, .int .i64 (mintF L p l).2.1]) ∧ TwoAt w' base g (mintF L p l).2.2 r M av ∧ Below base w w' ∧ ∀ b, av b → w'.heap[b]? = w.heap[b]? := by
  obtain ⟨okN, okR, h1, h2, h3, h4, h5, h9⟩ := h
  exact (mint_calls w base (fun k => okN k ∨ w.heap.size ≤ k) g L p A c l (h1.mono (fun k hk => .inl hk)) (fun k hk => .inr hk) hb hr hc hx hL).mono fun e w' ⟨he, h6, h7, h8⟩ =>
    have hno : ∀ k, av k → ¬ (okN k ∨ w.heap.size ≤ k) := fun k hk e => e.elim (h9 k hk).2.1 (fun a => by have := (h9 k hk).1; omega)
    ⟨he, ⟨_, okR, h6.bound, h2.step (fun k hk hlt => h8.2 k hlt (fun e => e.elim (fun a => h3 k a hk) (fun a => by omega))), fun k hk hR => hk.1.elim (fun a => h3 k a hR) (fun a => by have := h5 k hR; omega), fun k hk => hk.2.2, fun k hk => Nat.lt_of_lt_of_le (h5 k hk) h8.1,
      fun k hk => ⟨Nat.lt_of_lt_of_le (h9 k hk).1 h8.1, fun a => hno k hk a.1, (h9 k hk).2.2⟩⟩, h7, fun b hb => h8.2 b (h9 b hb).1 (hno b hb)⟩
theorem two_rmint (w : World) (base : Nat) (g r : Nat) (L M : List Ent) (av : Nat → Prop) (p : Int) (A : Option Addr) (c : Nat) (l : List Int) (h : TwoAt w base g L r M av) (hb : base ≤ w.heap.size)
    (hr : Kd.C (Kd.int .u8) w A l.length l) (hc : l.length ≤ c) (hl : l.length ≤ 1000000) (hL : M.length ≤ 1000000) (hf : ∀ x ∈ M, fine x) :
    Calls Try.prog 12 #[.pointer (some ⟨r, 0, none⟩), .int .i64 p, .slice A l.length c] w fun e w' => e = .returned (.tuple #[.int .u64 (mintF M p l).1, .int .i64 (mintF M p l).2.1]) ∧ TwoAt w' base g L r (mintF M p l).2.2 av ∧ Below base w w' ∧ ∀ b, av b → w'.heap[b]? = w.heap[b]? := by
  obtain ⟨okN, okR, h1, h2, h3, h4, h5, h9⟩ := h
  exact (rmint_calls w base (fun k => okR k ∨ w.heap.size ≤ k) r M p A c l (h2.mono (fun k hk => .inl hk)) (fun k hk => .inr hk) hb hr hc hl hL hf).mono fun e w' ⟨he, h6, h7, h8⟩ =>
    have hno : ∀ k, av k → ¬ (okR k ∨ w.heap.size ≤ k) := fun k hk e => e.elim (h9 k hk).2.2 (fun a => by have := (h9 k hk).1; omega)
    ⟨he, ⟨okN, _, h1.step (fun k hk hlt => h8.2 k hlt (fun e => e.elim (fun a => h3 k hk a) (fun a => by omega))), h6.bound, fun k hk hR => hR.1.elim (fun a => h3 k hk a) (fun a => by have := h4 k hk; omega), fun k hk => Nat.lt_of_lt_of_le (h4 k hk) h8.1, fun k hk => hk.2.2,
      fun k hk => ⟨Nat.lt_of_lt_of_le (h9 k hk).1 h8.1, (h9 k hk).2.1, fun a => hno k hk a.1⟩⟩, h7, fun b hb => h8.2 b (h9 b hb).1 (hno b hb)⟩
theorem TwoAt.fine {w : World} {base g r : Nat} {L M : List Ent} {av : Nat → Prop} (h : TwoAt w base g L r M av) : ∀ x ∈ L, Nt.fine x := by
  obtain ⟨okN, okR, ⟨B, v, D, _, _, _, _, _, h8⟩, _⟩ := h
  exact h8
theorem two_check (w : World) (base : Nat) (g r : Nat) (L M : List Ent) (av : Nat → Prop) (p : Int) (A : Option Addr) (c : Nat) (l : List Int) (tag : Int) (h : TwoAt w base g L r M av) (hr : Kd.C (Kd.int .u8) w A l.length l) (hc : l.length ≤ c) (hx : Nt.fine (p, l)) (hL : L.length ≤ 1000000) (ht : 0 ≤ tag ∧ tag ≤ 18446744073709551615) :
    Calls Try.prog 33 #[.pointer (some ⟨g, 0, none⟩), .int .i64 p, .slice A l.length c, .int .u64 tag] w fun e w' => e = .returned (.int .i64 (checkF L p l tag)) ∧ ∃ n, w' = w.drewN n := by
  obtain ⟨okN, okR, h1, _⟩ := h
  exact check_calls w base okN g L p A c l tag h1 hr hc hx hL ht
theorem two_rcheck (w : World) (base : Nat) (g r : Nat) (L M : List Ent) (av : Nat → Prop) (p : Int) (A : Option Addr) (c : Nat) (l : List Int) (tag : Int) (h : TwoAt w base g L r M av) (hr : Kd.C (Kd.int .u8) w A l.length l) (hc : l.length ≤ c) (hL : M.length ≤ 1000000) (hf : ∀ x ∈ M, Nt.fine x) :
    Calls Try.prog 34 #[.pointer (some ⟨r, 0, none⟩), .int .i64 p, .slice A l.length c, .int .u64 tag] w fun e w' => e = .returned (.int .i64 (checkF M p l tag)) ∧ ∃ n, w' = w.drewN n := by
  obtain ⟨okN, okR, h1, h2, _⟩ := h
  exact (rcheck_calls w base okR r M p A c l tag h2 hr hc hL hf).mono fun e w' ⟨he, hd⟩ => ⟨he, hd.out⟩
theorem two_count (w : World) (base : Nat) (g r : Nat) (L M : List Ent) (av : Nat → Prop) (h : TwoAt w base g L r M av) : Calls Try.prog 18 #[.pointer (some ⟨g, 0, none⟩)] w fun e w' => e = .returned (.int .i64 L.length) ∧ w = w' := by
  obtain ⟨okN, okR, h1, _⟩ := h
  exact count_calls w base okN g L h1
theorem TwoAt.rcell {w : World} {base g r : Nat} {L M : List Ent} {av : Nat → Prop} (h : TwoAt w base g L r M av) : ∃ A c, w.cell? ⟨r, 0, none⟩ = some (.slice A M.length c) := by
  obtain ⟨okN, okR, _, h2, _⟩ := h
  exact h2.cell
theorem mintF_fine {L : List Ent} {p : Int} {l : List Int} (hL : ∀ x ∈ L, fine x) (hx : fine (p, l)) : ∀ x ∈ (mintF L p l).2.2, fine x := by
  unfold mintF
  split
  · exact hL
  · split
    · exact hL
    · intro y hy
      rcases List.mem_append.1 hy with hy | hy
      · exact hL y hy
      · rw [List.mem_singleton.1 hy]; exact hx
theorem mintF_length (L : List Ent) (p : Int) (l : List Int) : (mintF L p l).2.2.length ≤ L.length + 1 := by
  unfold mintF
  split
  · exact Nat.le_succ _
  · split
    · exact Nat.le_succ _
    · simp


theorem one_mint_n (w : World) (base : Nat) (g : Nat) (L : List Ent) (av : Nat → Prop) (p : Int) (A : Option Addr) (n c : Nat) (l : List Int) (hn : n = l.length) (h : OneAt w base g L av) (hb : base ≤ w.heap.size)
    (hr : Kd.C (Kd.int .u8) w A n l) (hc : n ≤ c) (hx : fine (p, l)) (hL : L.length ≤ 1000000) :
    Calls Try.prog 10 #[.pointer (some ⟨g, 0, none⟩), .int .i64 p, .slice A n c] w fun e w' => e = .returned (.tuple #[.int .u64 (mintF L p l).1, .int .i64 (mintF L p l).2.1]) ∧ OneAt w' base g (mintF L p l).2.2 av ∧ Below base w w' ∧ ∀ b, av b → w'.heap[b]? = w.heap[b]? := by
  subst hn
  exact one_mint w base g L av p A c l h hb hr hc hx hL
theorem one_check_n (w : World) (base : Nat) (g : Nat) (L : List Ent) (av : Nat → Prop) (p : Int) (A : Option Addr) (n c : Nat) (l : List Int) (tag : Int) (hn : n = l.length) (h : OneAt w base g L av) (hr : Kd.C (Kd.int .u8) w A n l) (hc : n ≤ c) (hx : fine (p, l)) (hL : L.length ≤ 1000000) (ht : 0 ≤ tag ∧ tag ≤ 18446744073709551615) :
    Calls Try.prog 33 #[.pointer (some ⟨g, 0, none⟩), .int .i64 p, .slice A n c, .int .u64 tag] w fun e w' => e = .returned (.int .i64 (checkF L p l tag)) ∧ ∃ n, w' = w.drewN n := by
  subst hn
  exact one_check w base g L av p A c l tag h hr hc hx hL ht
end Go.Proofs.Ytmidmdbhbhjcdaa.Nt
