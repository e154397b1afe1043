/-
  A sender, a receiver and what else lies beside them: each function turns its own object and leaves the others. And the row of bytes that is like another (Same). Conditions: as in the texts that it imports.
-/
import Derived.Test.YtgkcncdanhkkoaaFd
import Derived.Deep.DeepCutAuto
import Derived.Lib.SlBytesConst
namespace Go.Proofs.Ytgkcncdanhkkoaa.Fw
open Go.RowKit Go.Maps Go.Proofs.Ytgkcncdanhkkoaa.Sp Go.Proofs.YtgkcncdanhkkoaaW.PrintWords Go.Proofs.YtgkcncdanhkkoaaW.PrintLast Go.Proofs.YtgkcncdanhkkoaaW.PrintMore
set_option linter.unusedVariables false
set_option linter.unusedSimpArgs false
theorem take_snoc (l : List Int) (i : Nat) (h : i < l.length) : l.take (i + 1) = l.take i ++ [l[i]] := by
  rw [List.take_succ_eq_append_getElem h]
set_option maxRecDepth 100000 in
set_option maxHeartbeats 2000000 in
theorem same_calls (w : World) (A0 : Option Addr) (c0 : Nat) (l0 : List Int) (A1 : Option Addr) (c1 : Nat) (l1 : List Int) (hr0 : Kd.C (Kd.int .u8) w A0 l0.length l0) (hc0 : l0.length ≤ c0) (hr1 : Kd.C (Kd.int .u8) w A1 l1.length l1) (hc1 : l1.length ≤ c1) (hl : l0.length ≤ 140737488355328) :
    Calls Try.prog 12 #[.slice A0 l0.length c0, .slice A1 l1.length c1] w fun e w' => e = .returned (.bool (decide (l0 = l1))) ∧ Drawn0 w w' := by
  have H0 := Lib.hid hr0
  have H1 := Lib.hid hr1
  clear hr0 hr1
  obtain ⟨R, hR⟩ : ∃ R, decide (l0 = l1) = R := ⟨_, rfl⟩
  rw [hR]
  have HR := Lib.hid hR
  clear hR
  by_cases hn : l0.length = l1.length
  · have g0 : ((l0.length : Int) == (l1.length : Int)) = true := by simp [hn]
    have Hn := Lib.hid hn
    have hle : l0.length ≤ l1.length := by omega
    clear hn
    go_enter Try.func12, Try.ntmps12
    go_wp2
    go_loopw [5] (fun v5 wr => ∃ i : Nat, v5 = .int .i64 i ∧ i ≤ l0.length ∧ Hid (l0.take i = l1.take i) ∧ Drawn0 w wr) (fun v5 _ => l0.length - (intOf v5).toNat)
    case atStart => exact ⟨0, rfl, Nat.zero_le _, Lib.hid (by simp), Drawn0.refl w⟩
    case round =>
      obtain ⟨i, rfl, hi, HT, hd⟩ := hrel
      by_cases hlt : i < l0.length
      · have b0 : decide ((i : Int) < (l0.length : Int)) = true := decide_eq_true (by omega)
        have b1 : (i : Int) < (l0.length : Int) := by omega
        have b2 : (i : Int) < (l1.length : Int) := by omega
        obtain ⟨ad, rfl, hx⟩ := cell_of_C (Kd.C_below H0.out hd.below) i hlt rfl
        obtain ⟨ad1, rfl, hx1⟩ := cell_of_C (Kd.C_below H1.out hd.below) i (by omega) rfl
        obtain ⟨x, hxe⟩ : ∃ x, l0[i] = x := ⟨_, rfl⟩
        obtain ⟨y, hye⟩ : ∃ y, l1[i]'(by omega) = y := ⟨_, rfl⟩
        rw [hxe] at hx
        rw [hye] at hx1
        have HX := Lib.hid hxe
        have HY := Lib.hid hye
        clear hxe hye
        by_cases hxy : x = y
        · subst hxy
          have q1 : (x == x) = true := by simp
          go_wp2
          go_quiet (fail)
          go_wp2
          go_roundw
          case rel => exact ⟨i + 1, by go_num, by omega, Lib.hid (by rw [take_snoc _ _ hlt, take_snoc _ _ (by omega), HT.out, HX.out, HY.out]), hd.step _⟩
          case measure => simp [intOf]; omega
        · have q1 : (x == y) = false := by simpa using hxy
          have hne : decide (l0 = l1) = false := decide_eq_false (fun e => by subst e; exact hxy (HX.out.symm.trans HY.out))
          have HE := Lib.hid (HR.out.symm.trans hne)
          clear hxy hne
          go_wp2
          go_quiet (fail)
          go_wp2
          go_ret
          exact ⟨by rw [HE.out]; rfl, hd.step _⟩
      · have b0 : decide ((i : Int) < (l0.length : Int)) = false := decide_eq_false (by omega)
        have hne : decide (l0 = l1) = true := decide_eq_true (by have h := HT.out; have hn := Hn.out; rw [List.take_of_length_le (by omega), List.take_of_length_le (by omega)] at h; exact h)
        have HE := Lib.hid (HR.out.symm.trans hne)
        clear hne
        go_wp2
        go_ret
        exact ⟨by rw [HE.out]; rfl, hd⟩
  · have g0 : ((l0.length : Int) == (l1.length : Int)) = false := by simpa using (by omega : ¬ (l0.length : Int) = l1.length)
    have hne : decide (l0 = l1) = false := decide_eq_false (fun e => hn (by rw [e]))
    have HE := Lib.hid (HR.out.symm.trans hne)
    clear hne hn
    go_enter Try.func12, Try.ntmps12
    go_wp2
    go_ret
    exact ⟨by rw [HE.out]; rfl, Drawn0.refl w⟩
/-! ### one is turned -/
/-- The first is turned: its new blocks are fresh. -/
theorem Sep.turned {w w1 : World} {X X' : Ob} {Xs : List Ob} {av ok ok' : Nat → Prop} (h2 : ∀ k, ok k → k < w.heap.size) (h3 : ∀ k, av k → ¬ ok k) (h4 : Sep w Xs (fun k => av k ∨ ok k))
    (k1 : X'.P w1 ok') (k2 : ∀ k, ok' k → ok k ∨ w.heap.size ≤ k) (k3 : ∀ k, ok' k → k < w1.heap.size) (k4 : Off (fun k => ok k ∨ w.heap.size ≤ k) w w1) : Sep w1 (X' :: Xs) av ∧ ∀ b, av b → w1.heap[b]? = w.heap[b]? := by
  have k5 : Off ok w w1 := k4.mono (fun k hk hlt => hk.elim id (fun a => by omega))
  refine ⟨⟨ok', k1, k3, fun k hk e => ?_, ?_⟩, fun b hb => k5.2 b (h4.lt b (.inl hb)) (h3 b hb)⟩
  · rcases k2 k e with a | a
    · exact h3 k hk a
    · have := h4.lt k (.inl hk); omega
  · refine (Sep.off ok (av := av) (h4.sub (fun k hk => hk.imp id (fun a => a.1))) k5).sub (fun k hk => ?_)
    rcases hk with a | a
    · exact .inl a
    · rcases k2 k a with b | b
      · exact .inr (.inl ⟨b, h2 k b⟩)
      · exact .inr (.inr ⟨b, k3 k a⟩)
/-- The first is turned on its own blocks; all that is fresh may be taken. -/
theorem Sep.kept {w w1 : World} {X X' : Ob} {Xs : List Ob} {av ok : Nat → Prop} (h2 : ∀ k, ok k → k < w.heap.size) (h3 : ∀ k, av k → ¬ ok k) (h4 : Sep w Xs (fun k => av k ∨ ok k))
    (k1 : X'.P w1 ok) (k4 : Off ok w w1) : Sep w1 (X' :: Xs) (fun k => av k ∨ (w.heap.size ≤ k ∧ k < w1.heap.size)) ∧ ∀ b, av b → w1.heap[b]? = w.heap[b]? := by
  refine ⟨⟨ok, k1, fun k hk => Nat.lt_of_lt_of_le (h2 k hk) k4.1, fun k hk e => ?_, ?_⟩, fun b hb => k4.2 b (h4.lt b (.inl hb)) (h3 b hb)⟩
  · rcases hk with a | a
    · exact h3 k a e
    · have := h2 k e; omega
  · refine (Sep.off ok (av := av) (h4.sub (fun k hk => hk.imp id (fun a => a.1))) k4).sub (fun k hk => ?_)
    rcases hk with (a | a) | a
    · exact .inl a
    · exact .inr (.inr a)
    · exact .inr (.inl ⟨a, h2 k a⟩)
theorem SndAt.mono {base g : Nat} {s : S} {w : World} {ok ok' : Nat → Prop} (h : SndAt base g s w ok) (ho : ∀ k, ok k → ok' k) : SndAt base g s w ok' := by
  obtain ⟨v, h1, h2, h3, h4⟩ := h
  exact ⟨v, h1, ⟨ho _ h2.1, h2.2⟩, Kd.R_mono h3 ho, h4⟩
theorem SndAt.bound {base g : Nat} {s : S} {w : World} {ok : Nat → Prop} (h : SndAt base g s w ok) : SndAt base g s w (fun k => ok k ∧ k < w.heap.size) := by
  obtain ⟨v, h1, h2, h3, h4⟩ := h
  exact ⟨v, h1, ⟨⟨h2.1, (Array.getElem?_eq_some_iff.1 h1).1⟩, h2.2⟩, Kd.R_mono (Kd.R_bound h3) (fun k hk => ⟨hk.1, hk.2.2.1⟩), h4⟩
theorem RcvAt.mono {base g : Nat} {r : Rc} {w : World} {ok ok' : Nat → Prop} (h : RcvAt base g r w ok) (ho : ∀ k, ok k → ok' k) : RcvAt base g r w ok' := by
  obtain ⟨⟨B, v, D, h1, h2, h3, h4, h5, h6⟩, h7⟩ := h
  exact ⟨⟨B, v, D, h1, ⟨ho _ h2.1, ho _ h2.2.1, h2.2.2⟩, h3, h4, Kd.R_mono h5 ho, h6⟩, h7⟩
theorem RcvAt.bound {base g : Nat} {r : Rc} {w : World} {ok : Nat → Prop} (h : RcvAt base g r w ok) : RcvAt base g r w (fun k => ok k ∧ k < w.heap.size) := by
  obtain ⟨⟨B, v, D, h1, h2, h3, h4, h5, h6⟩, h7⟩ := h
  exact ⟨⟨B, v, D, h1, ⟨⟨h2.1, (Array.getElem?_eq_some_iff.1 h1).1⟩, ⟨h2.2.1, h3.lt⟩, h2.2.2⟩, h3, h4, Kd.R_mono (Kd.R_bound h5) (fun k hk => ⟨hk.1, hk.2.2.1⟩), h6⟩, h7⟩
theorem Sep.drawn {w : World} {Xs : List Ob} {av : Nat → Prop} (h : Sep w Xs av) (n : Nat) : Sep (w.drewN n) Xs av := h.step' ⟨rfl, rfl, rfl, Nat.le_refl _, fun _ _ => rfl⟩
section
variable {base g : Nat} {s : S} {r : Rc} {w : World} {Xs : List Ob} {av : Nat → Prop}
theorem ss_write (A : Option Addr) (m c : Nat) (l : List Int) (hml : m = l.length) (h : Sep w (sndOb base g s :: Xs) av) (hbs : base ≤ w.heap.size) (hr : Kd.C (Kd.int .u8) w A m l) (hc : m ≤ c) (hl : ∀ b ∈ l, 0 ≤ b ∧ b ≤ 255) (hll : m ≤ 1000000000) :
    Calls Try.prog 15 #[.pointer (some ⟨g, 0, none⟩), .slice A m c] w fun e w' => e = .returned (.int .i64 (writeN s l)) ∧ Sep w' (sndOb base g (writeS s l) :: Xs) av ∧ (∀ b, av b → w'.heap[b]? = w.heap[b]?) ∧ Below base w w' := by
  subst hml
  obtain ⟨ok, h1, h2, h3, h4⟩ := h
  refine (snd_write base g s w (fun k => ok k ∨ w.heap.size ≤ k) A c l (SndAt.mono h1 (fun k hk => .inl hk)) (fun k hk => .inr hk) hbs hr hc hl hll).mono ?_
  rintro e w' ⟨he, hS, hO, hB⟩
  have ht := Sep.turned (X := sndOb base g s) (X' := sndOb base g (writeS s l)) h2 h3 h4 (show (sndOb base g (writeS s l)).P w' (fun k => (ok k ∨ w.heap.size ≤ k) ∧ k < w'.heap.size) from SndAt.bound hS) (fun k hk => hk.1) (fun k hk => hk.2) hO
  exact ⟨he, ht.1, ht.2, hB⟩
theorem ss_again (h : Sep w (sndOb base g s :: Xs) av) :
    Calls Try.prog 20 #[.pointer (some ⟨g, 0, none⟩)] w fun e w' => e = .returned (.tuple #[]) ∧ Sep w' (sndOb base g { s with next := s.base } :: Xs) av ∧ (∀ b, av b → w'.heap[b]? = w.heap[b]?) ∧ Below base w w' := by
  obtain ⟨ok, h1, h2, h3, h4⟩ := h
  refine (snd_again base g s w ok h1).mono ?_
  rintro e w' ⟨he, hS, hO, hB⟩
  have ht := Sep.kept (X := sndOb base g s) (X' := sndOb base g { s with next := s.base }) h2 h3 h4 hS hO
  exact ⟨he, ht.1.sub (fun k hk => .inl hk), ht.2, hB⟩
theorem ss_ack_no (u d : Int) (h : Sep w (sndOb base g s :: Xs) av) (hb : ackB s u d = true) :
    Calls Try.prog 16 #[.pointer (some ⟨g, 0, none⟩), .int .i64 u, .int .i64 d] w fun e w' => e = .returned (.bool false) ∧ w' = w := by
  obtain ⟨ok, h1, h2, h3, h4⟩ := h
  exact snd_ack_no base g s w ok u d h1 hb
theorem ss_ack_yes (u d : Nat) (h : Sep w (sndOb base g s :: Xs) av) (hb : ackB s u d = false) :
    Calls Try.prog 16 #[.pointer (some ⟨g, 0, none⟩), .int .i64 u, .int .i64 d] w fun e w' => e = .returned (.bool true) ∧ Sep w' (sndOb base g (ackS s u d) :: Xs) av ∧ (∀ b, av b → w'.heap[b]? = w.heap[b]?) ∧ Below base w w' := by
  obtain ⟨ok, h1, h2, h3, h4⟩ := h
  refine (snd_ack_yes base g s w ok u d h1 hb).mono ?_
  rintro e w' ⟨he, hS, hO, hB⟩
  have ht := Sep.kept (X := sndOb base g s) (X' := sndOb base g (ackS s u d)) h2 h3 h4 hS hO
  exact ⟨he, ht.1.sub (fun k hk => .inl hk), ht.2, hB⟩
theorem ss_next_no (h : Sep w (sndOb base g s :: Xs) av) (hn : nextE s ≤ s.next) :
    Calls Try.prog 17 #[.pointer (some ⟨g, 0, none⟩)] w fun e w' => e = .returned (.tuple #[.agg #[.int .i64 0, .slice none 0 0], .bool false]) ∧ Below w.heap.size w w' := by
  obtain ⟨ok, h1, h2, h3, h4⟩ := h
  exact snd_next_no base g s w ok h1 hn
theorem ss_next_yes (h : Sep w (sndOb base g s :: Xs) av) (hn : s.next < nextE s) :
    Calls Try.prog 17 #[.pointer (some ⟨g, 0, none⟩)] w fun e w' => ∃ v, e = .returned (.tuple #[.agg #[.int .i64 s.next, v], .bool true]) ∧ (Kd.int .u8).R 5 w' w.heap.size (fun _ => True) v (nextB s) ∧
      Sep w' (sndOb base g (nextS s) :: Xs) (fun k => av k ∨ (w.heap.size ≤ k ∧ k < w'.heap.size)) ∧ (∀ b, av b → w'.heap[b]? = w.heap[b]?) ∧ Below base w w' := by
  obtain ⟨ok, h1, h2, h3, h4⟩ := h
  refine (snd_next_yes base g s w ok h1 hn h2).mono ?_
  rintro e w' ⟨v, he, hR, hS, hO, hB⟩
  have ht := Sep.kept (X := sndOb base g s) (X' := sndOb base g (nextS s)) h2 h3 h4 hS hO
  exact ⟨v, he, hR, ht.1, ht.2, hB⟩
theorem ss_left (h : Sep w (sndOb base g s :: Xs) av) : Calls Try.prog 18 #[.pointer (some ⟨g, 0, none⟩)] w fun e w' => e = .returned (.tuple #[.int .i64 (s.l.length - s.base), .int .i64 (s.next - s.base)]) ∧ ∃ n, w' = w.drewN n := by
  obtain ⟨ok, h1, h2, h3, h4⟩ := h
  exact snd_left base g s w ok h1
theorem ss_fine (h : Sep w (sndOb base g s :: Xs) av) : s.fine := by
  obtain ⟨ok, ⟨v, _, _, _, h4⟩, _⟩ := h
  exact h4
theorem rr_half (h : Sep w (rcvOb base g r :: Xs) av) : r.half ∧ r.G r.b.length = none := by
  obtain ⟨ok, ⟨⟨B, v, D, _, _, _, _, _, h6⟩, h7⟩, _⟩ := h
  exact ⟨h6, h7⟩
theorem rr_ack (h : Sep w (rcvOb base g r :: Xs) av) : Calls Try.prog 11 #[.pointer (some ⟨g, 0, none⟩)] w fun e w' => e = .returned (.tuple #[.int .i64 r.b.length, .int .i64 ((r.win : Int) - ((r.b.length : Int) - (r.read : Int)))]) ∧ ∃ n, w' = w.drewN n := by
  obtain ⟨ok, h1, h2, h3, h4⟩ := h
  exact rcv_ack base g r w ok h1
theorem rr_hear_no (off : Int) (A : Option Addr) (m c : Nat) (h : Sep w (rcvOb base g r :: Xs) av) (hm : m ≤ 1000000000000) (hb : hearB r off m = true) :
    Calls Try.prog 10 #[.pointer (some ⟨g, 0, none⟩), .agg #[.int .i64 off, .slice A m c]] w fun e w' => e = .returned (.bool false) ∧ Below w.heap.size w w' := by
  obtain ⟨ok, h1, h2, h3, h4⟩ := h
  exact rcv_hear_no base g r w ok off A m c h1 hm hb
theorem rr_hear_yes (off : Nat) (A : Option Addr) (m c : Nat) (l : List Int) (hml : m = l.length) (h : Sep w (rcvOb base g r :: Xs) av) (hbs : base ≤ w.heap.size) (hr : Kd.C (Kd.int .u8) w A m l) (hc : m ≤ c) (hl : ∀ b ∈ l, 0 ≤ b ∧ b ≤ 255) (hn : r.n + 500 ≤ 1000000000) (hb : hearB r off m = false) :
    Calls Try.prog 10 #[.pointer (some ⟨g, 0, none⟩), .agg #[.int .i64 off, .slice A m c]] w fun e w' => e = .returned (.bool true) ∧ (∃ b', Sep w' (rcvOb base g { r with b := b', n := r.n + l.length, G := fillG r.G off l } :: Xs) av) ∧ (∀ b, av b → w'.heap[b]? = w.heap[b]?) ∧ Below base w w' := by
  subst hml
  obtain ⟨ok, h1, h2, h3, h4⟩ := h
  refine (rcv_hear_yes base g r w (fun k => ok k ∨ w.heap.size ≤ k) off A c l (RcvAt.mono h1 (fun k hk => .inl hk)) (fun k hk => .inr hk) hbs hr hc hl hn hb).mono ?_
  rintro e w' ⟨he, ⟨b', hS⟩, hO, hB⟩
  have ht := Sep.turned (X := rcvOb base g r) (X' := rcvOb base g { r with b := b', n := r.n + l.length, G := fillG r.G off l }) h2 h3 h4 (show (rcvOb base g { r with b := b', n := r.n + l.length, G := fillG r.G off l }).P w' (fun k => (ok k ∨ w.heap.size ≤ k) ∧ k < w'.heap.size) from RcvAt.bound hS) (fun k hk => hk.1) (fun k hk => hk.2) hO
  exact ⟨he, ⟨b', ht.1⟩, ht.2, hB⟩
theorem rr_read (most : Int) (h : Sep w (rcvOb base g r :: Xs) av) (hbs : base ≤ w.heap.size) :
    Calls Try.prog 13 #[.pointer (some ⟨g, 0, none⟩), .int .i64 most] w fun e w' => ∃ v, e = .returned v ∧ (Kd.int .u8).R 5 w' w.heap.size (fun _ => True) v (readB r most) ∧ Sep w' (rcvOb base g (readR r most) :: Xs) (fun k => av k ∨ (w.heap.size ≤ k ∧ k < w'.heap.size)) ∧ (∀ b, av b → w'.heap[b]? = w.heap[b]?) ∧ Below base w w' := by
  obtain ⟨ok, h1, h2, h3, h4⟩ := h
  refine (rcv_read base g r w ok most h1 hbs).mono ?_
  rintro e w' ⟨v, he, hR, hS, hO, hB⟩
  have ht := Sep.kept (X := rcvOb base g r) (X' := rcvOb base g (readR r most)) h2 h3 h4 hS hO
  exact ⟨v, he, hR, ht.1, ht.2, hB⟩
theorem ss_new (h : Sep w Xs av) (hbs : base ≤ w.heap.size) : Calls Try.prog 14 #[] w fun e w' => ∃ g, e = .returned (.pointer (some ⟨g, 0, none⟩)) ∧ Sep w' (sndOb base g S0 :: Xs) av ∧ Below w.heap.size w w' := by
  refine (snd_new w).mono ?_
  rintro e w' ⟨he, hS, hz, hB⟩
  refine ⟨w.heap.size, he, Sep.more h hB ⟨fun k => k = w.heap.size, ?_, fun k hk => by omega⟩, hB⟩
  obtain ⟨v, h1, h2, h3, h4⟩ := hS
  exact ⟨v, h1, ⟨h2.1, hbs⟩, Kd.R_lower h3 hbs, h4⟩
theorem rr_new (x : Nat) (h1 : 1 ≤ x) (h2 : x ≤ 4096) (h : Sep w Xs av) (hbs : base ≤ w.heap.size) : Calls Try.prog 9 #[.int .i64 x] w fun e w' => ∃ g, e = .returned (.tuple #[.pointer (some ⟨g, 0, none⟩), .int .i64 0]) ∧ Sep w' (rcvOb base g (R0 x) :: Xs) av ∧ Below w.heap.size w w' := by
  refine (rcv_new w x h1 h2).mono ?_
  rintro e w' ⟨g, he, hS, hB⟩
  refine ⟨g, he, Sep.more h hB ⟨_, ?_, fun k hk => hk⟩, hB⟩
  obtain ⟨⟨B, v, D, h1, h2, h3, h4, h5, h6⟩, h7⟩ := hS
  exact ⟨⟨B, v, D, h1, ⟨h2.1, h2.2.1, by omega, by omega⟩, h3, h4, Kd.R_lower h5 hbs, h6⟩, h7⟩
end
/-- What came without a gap is all that came, if there is none behind it. -/
theorem full {b l : List Int} {G : Nat → Option Int} (h1 : ∀ i, i < b.length → G i = b[i]?) (h2 : G b.length = none) (h3 : ∀ i, G i = l[i]?) : b = l := by
  apply List.ext_getElem?
  intro i
  rw [h3] at h2
  have hl := List.getElem?_eq_none_iff.1 h2
  by_cases hi : i < b.length
  · rw [← h1 i hi, h3]
  · rw [List.getElem?_eq_none (by omega), List.getElem?_eq_none (by omega)]
theorem rr_full {base g : Nat} {r : Rc} {w : World} {Xs : List Ob} {av : Nat → Prop} (h : Sep w (rcvOb base g r :: Xs) av) {l : List Int} (hG : ∀ i, r.G i = l[i]?) : r.b = l := by
  have h := rr_half h
  exact full h.1.1 h.2 hG
end Go.Proofs.Ytgkcncdanhkkoaa.Fw
