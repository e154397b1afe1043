/-
  The laws of the stream: awake returns true. No condition.
-/
import Derived.Test.YtgkcncdanhkkoaaFs
namespace Go.Proofs.Ytgkcncdanhkkoaa.Fw
open Go.RowKit Go.Maps Go.Proofs.Ytgkcncdanhkkoaa.Sp Go.Proofs.YtgkcncdanhkkoaaW.PrintWords Go.Proofs.YtgkcncdanhkkoaaW.PrintLast Go.Proofs.YtgkcncdanhkkoaaW.PrintMore
set_option linter.unusedVariables false
set_option linter.unusedSimpArgs false
section
variable {base g : Nat} {X : Ob} {r : Rc} {w : World} {Xs : List Ob} {av : Nat → Prop}
theorem dd_ack (h : Sep w (X :: rcvOb base g r :: Xs) av) : Calls Try.prog 11 #[.pointer (some ⟨g, 0, none⟩)] w fun e w' => e = .returned (.tuple #[.int .i64 r.b.length, .int .i64 ((r.win : Int) - ((r.b.length : Int) - (r.read : Int)))]) ∧ ∃ n, w' = w.drewN n := rr_ack h.swap
theorem dd_half (h : Sep w (X :: rcvOb base g r :: Xs) av) : r.half ∧ r.G r.b.length = none := rr_half h.swap
theorem dd_full (h : Sep w (X :: rcvOb base g r :: Xs) av) {l : List Int} (hG : ∀ i, r.G i = l[i]?) : r.b = l := rr_full h.swap hG
theorem dd_hear_no (off : Int) (A : Option Addr) (m c : Nat) (h : Sep w (X :: rcvOb base g r :: Xs) av) (hm : m ≤ 1000000000000) (hb : hearB r off m = true) :
    Calls Try.prog 10 #[.pointer (some ⟨g, 0, none⟩), .agg #[.int .i64 off, .slice A m c]] w fun e w' => e = .returned (.bool false) ∧ Below w.heap.size w w' := rr_hear_no off A m c h.swap hm hb
theorem dd_hear_yes (off : Nat) (A : Option Addr) (m c : Nat) (l : List Int) (hml : m = l.length) (h : Sep w (X :: rcvOb base g r :: Xs) av) (hbs : base ≤ w.heap.size) (hr : Kd.C (Kd.int .u8) w A m l) (hc : m ≤ c) (hl : ∀ b ∈ l, 0 ≤ b ∧ b ≤ 255) (hn : r.n + 500 ≤ 1000000000) (hb : hearB r off m = false) :
    Calls Try.prog 10 #[.pointer (some ⟨g, 0, none⟩), .agg #[.int .i64 off, .slice A m c]] w fun e w' => e = .returned (.bool true) ∧ (∃ b', Sep w' (X :: rcvOb base g { r with b := b', n := r.n + l.length, G := fillG r.G off l } :: Xs) av) ∧ (∀ b, av b → w'.heap[b]? = w.heap[b]?) ∧ Below base w w' :=
  (rr_hear_yes off A m c l hml h.swap hbs hr hc hl hn hb).mono fun e w' ⟨he, ⟨b', hS⟩, h⟩ => ⟨he, ⟨b', hS.swap⟩, h⟩
theorem dd_read (most : Int) (h : Sep w (X :: rcvOb base g r :: Xs) av) (hbs : base ≤ w.heap.size) :
    Calls Try.prog 13 #[.pointer (some ⟨g, 0, none⟩), .int .i64 most] w fun e w' => ∃ v, e = .returned v ∧ (Kd.int .u8).R 5 w' w.heap.size (fun _ => True) v (readB r most) ∧ Sep w' (X :: rcvOb base g (readR r most) :: Xs) (fun k => av k ∨ (w.heap.size ≤ k ∧ k < w'.heap.size)) ∧ (∀ b, av b → w'.heap[b]? = w.heap[b]?) ∧ Below base w w' :=
  (rr_read most h.swap hbs).mono fun e w' ⟨v, he, hR, hS, h⟩ => ⟨v, he, hR, hS.swap, h⟩
end
/-! ### awake -/
theorem hello_C (w : World) (c : Nat) : (Kd.int .u8).C (w.alloc (.cells #[.int .u8 104, .int .u8 101, .int .u8 108, .int .u8 108, .int .u8 111] 5 (5, c))) (some ⟨w.heap.size, 0, none⟩) 5 [104, 101, 108, 108, 111] := Kd.C_of_reads (d := (0 : Int)) (h1 := fun _ => rfl) ⟨rfl, by decide, fun _ => ⟨_, rfl, fun j hj => by
      rw [Addr.add_lit, World.cell?_alloc_mark]
      match j, hj with
      | 0, _ => rfl
      | 1, _ => rfl
      | 2, _ => rfl
      | 3, _ => rfl
      | 4, _ => rfl⟩⟩
def hello : List Int := [104, 101, 108, 108, 111]
def sA : S := ⟨hello, 0, 0, 0, 0⟩
def sB : S := ⟨hello, 0, 0, 0, 3⟩
def sC : S := ⟨hello, 0, 3, 3, 3⟩
theorem hello_by : ∀ b ∈ hello, 0 ≤ b ∧ b ≤ 255 := by unfold hello; decide
theorem R_own {d : Kd Int} {e : Nat} {w : World} {base : Nat} {v : Value} {xs : List Int} (h : d.R e w base (fun _ => True) v xs) : d.R e w base (fun k => base ≤ k ∧ k < w.heap.size) v xs := Kd.R_mono (Kd.R_bound h) (fun k hk => ⟨hk.2.1, hk.2.2.1⟩)
theorem fill_from (l : List Int) (i : Nat) : fillG (fun _ => none) 0 l i = l[i]? := by
  unfold fillG
  simp
def hel : List Int := [104, 101, 108]
def rA : Rc := { win := 9, b := hel, read := 0, n := 3, G := fillG (fun _ => none) 0 hel }
theorem hear_first {base gr : Nat} {X : Ob} {Xs : List Ob} {av : Nat → Prop} (w : World) (A : Option Addr) (c : Nat) (h : Sep w (X :: rcvOb base gr (R0 9) :: Xs) av) (hbs : base ≤ w.heap.size) (hr : Kd.C (Kd.int .u8) w A 3 hel) (hc : 3 ≤ c) :
    Calls Try.prog 10 #[.pointer (some ⟨gr, 0, none⟩), .agg #[.int .i64 0, .slice A 3 c]] w fun e w' => e = .returned (.bool true) ∧ Sep w' (X :: rcvOb base gr rA :: Xs) av ∧ (∀ b, av b → w'.heap[b]? = w.heap[b]?) ∧ Below base w w' := by
  refine (dd_hear_yes 0 A 3 c hel rfl h hbs hr hc (by unfold hel; decide) (by decide) (by decide)).mono ?_
  rintro e w' ⟨he, ⟨b', hS⟩, h1, h2⟩
  have hb := dd_full hS (l := hel) (fun i => fill_from hel i)
  dsimp only at hb
  subst hb
  exact ⟨he, hS, h1, h2⟩
theorem ack_first {base gr : Nat} {X : Ob} {Xs : List Ob} {av : Nat → Prop} (w : World) (h : Sep w (X :: rcvOb base gr rA :: Xs) av) :
    Calls Try.prog 11 #[.pointer (some ⟨gr, 0, none⟩)] w fun e w' => e = .returned (.tuple #[.int .i64 3, .int .i64 6]) ∧ ∃ n, w' = w.drewN n := dd_ack h
set_option maxRecDepth 100000 in
set_option maxHeartbeats 1000000 in
theorem awake_calls (w : World) : Calls Try.prog 8 #[] w fun e w' => e = .returned (.bool true) ∧ Below w.heap.size w w' := by
  have qc : ∀ (w : World), _ := fun w => Lib.run_convert_bytes_const (P := Try.prog) w 22 5 #[.int .u8 104, .int .u8 101, .int .u8 108, .int .u8 108, .int .u8 111] 5 5 Try.underlying22 Try.underlying5
  have q25 : ∀ (w : World) (a : Addr), (binOp .eql 36 (.pointer (some a)) (.pointer none)).run Try.prog w = .ok (.bool false) w := fun w a => by kernel_rfl
  have q26 : ∀ (w : World) (a : Addr), (binOp .eql 24 (.pointer (some a)) (.pointer none)).run Try.prog w = .ok (.bool false) w := fun w a => by kernel_rfl
  have HN := Lib.hid (show Sep w [] (fun _ => False) from fun k hk => hk.elim)
  go_enter Try.func8, Try.ntmps8
  go_upto_region 5 with (first
    | (go_at_call 14; refine (ss_new (base := w.heap.size) HN.out (Nat.le_refl _)).mono ?_; rintro e w1 ⟨gs, rfl, h1, hb1⟩; have H1 := Lib.hid h1; have HB1 := Lib.hid hb1; have hs1 := hb1.size; clear h1 hb1)
    | (go_at_call 9; refine (rr_new 9 (by decide) (by decide) H1.out hs1).mono ?_; rintro e w2 ⟨gr, rfl, h2, hb2⟩; have H2 := Lib.hid h2.swap; have HB2 := Lib.hid (HB1.out.trans (hb2.mono hs1)); have hs2 := HB2.out.size; clear h2 hb2))
  have e1 : writeS S0 hello = sA := by rfl
  have e1n : writeN S0 hello = 5 := by rfl
  have hsa : w2.heap.size ≤ (w2.alloc (.cells #[.int .u8 104, .int .u8 101, .int .u8 108, .int .u8 108, .int .u8 111] 5 (5, 6))).heap.size := by simp
  have K1 := Lib.hid (ss_write (base := w.heap.size) (some ⟨w2.heap.size, 0, none⟩) 5 5 hello rfl (H2.out.step' ((Below.refl _ w2).alloc (Nat.le_refl _) (.cells #[.int .u8 104, .int .u8 101, .int .u8 108, .int .u8 108, .int .u8 111] 5 (5, 6)))) (by omega) (hello_C w2 6) (by decide) hello_by (by decide))
  have K1 := K1.out
  rw [e1, e1n] at K1
  have K1 := Lib.hid K1
  have K2 := Lib.hid (fun (V : World) (hV : Sep V [sndOb w.heap.size gs sA, rcvOb w.heap.size gr (R0 9)] (fun _ => False)) => ss_ack_yes 0 3 hV (by decide))
  have e2 : ackS sA 0 3 = sB := by rfl
  have e3 : nextB sB = [104, 101, 108] := by rfl
  have e4 : nextS sB = sC := by rfl
  clear e1 e1n
  have E2 := Lib.hid e2
  have E3 := Lib.hid e3
  have E4 := Lib.hid e4
  clear e2 e3 e4
  go_upto_region 8 with (first
    | (go_at_call 15; refine K1.out.mono ?_; rintro e w3 ⟨rfl, h3, _, hb3⟩; have H3 := Lib.hid h3; have HB3 := Lib.hid ((HB2.out.alloc hs2 (.cells #[.int .u8 104, .int .u8 101, .int .u8 108, .int .u8 108, .int .u8 111] 5 (5, 6))).trans hb3); clear h3 hb3)
    | (go_at_call 16; refine (K2.out w3 H3.out).mono ?_; rintro e w4 ⟨rfl, h4, _, hb4⟩; rw [E2.out] at h4; have H4 := Lib.hid h4; have HB4 := Lib.hid (HB3.out.trans hb4); clear h4 hb4)
    | (go_at_call 17; refine (ss_next_yes H4.out (by decide)).mono ?_; rintro e w5 ⟨v5, rfl, hR5, h5, _, hb5⟩; rw [E3.out] at hR5; rw [E4.out] at h5; obtain ⟨A5, c5, rfl, hc5, hC5⟩ := Kd.R_reads hR5; have H5 := Lib.hid h5; have HR5 := Lib.hid hR5; have HC5 := Lib.hid hC5; have HB5 := Lib.hid (HB4.out.trans hb5); have hs45 := hb5.size; clear h5 hb5 hR5 hC5))
  have e0 : ((sB.next : Nat) : Int) = 0 := rfl
  rw [e0]
  clear e0
  obtain ⟨W6, hW6⟩ : ∃ W6, w5.alloc (.cells #[.int .i64 0, .slice A5 3 c5] 29) = W6 := ⟨_, rfl⟩
  have hb6 : Below w5.heap.size w5 W6 := by rw [← hW6]; exact (Below.refl _ _).alloc (Nat.le_refl _) _
  have hE6 : W6.heap[w5.heap.size]? = some (.cells #[.int .i64 0, .slice A5 3 c5] 29 (0, 0)) := by rw [← hW6]; exact new_cellsN _ _ _
  have hs6 : W6.heap.size = w5.heap.size + 1 := by rw [← hW6]; simp
  have H6 := Lib.hid (H5.out.step hb6)
  have hs4 := HB4.out.size
  have hs5 := HB5.out.size
  have H6a := Lib.hid ((H5.out.step hb6).sub (av' := fun k => w4.heap.size ≤ k ∧ k < W6.heap.size) (fun k hk => by
    by_cases hl : k < w5.heap.size
    · exact .inl (.inr ⟨hk.1, hl⟩)
    · exact .inr ⟨by omega, hk.2⟩))
  have HR6 := Lib.hid (Kd.R_mono (ok' := fun k => w4.heap.size ≤ k ∧ k < W6.heap.size) (R_own (Kd.R_below HR5.out hb6)) (fun k hk => hk))
  have HE6 := Lib.hid hE6
  have d0 := cell_cellsN hE6 0 (by simp)
  have d1 := cell_cellsN hE6 1 (by simp)
  dsimp only [List.getElem_toArray, List.getElem_cons_zero, List.getElem_cons_succ] at d0 d1
  rw [hW6]
  have HB6 := Lib.hid (HB5.out.trans (hb6.mono hs5))
  have HC6 := Lib.hid (Kd.C_below HC5.out hb6)
  have K5 := Lib.hid (hear_first W6 A5 c5 H6a.out (by omega) HC6.out hc5)
  clear hb6 hE6 hW6
  go_upto_region 9 with (go_at_call 10; refine K5.out.mono ?_; rintro e w7 ⟨rfl, h7, k7, hb7⟩; have H7 := Lib.hid h7; have HB7 := Lib.hid (HB6.out.trans hb7); have HE7 := Lib.hid ((k7 _ (show w4.heap.size ≤ w5.heap.size ∧ w5.heap.size < W6.heap.size by constructor <;> omega)).trans HE6.out); have HR7 := Lib.hid (Kd.R_step HR6.out (fun k hk _ => k7 k hk)); clear h7 k7 hb7)
  have K6 := Lib.hid (ack_first w7 H7.out)
  have FA := Lib.hid (show ∀ (w8 : World) (n8 : Nat), w8 = w7.drewN n8 → Sep w8 [sndOb w.heap.size gs sC, rcvOb w.heap.size gr rA] (fun k => w4.heap.size ≤ k ∧ k < W6.heap.size) ∧ w8.heap[w5.heap.size]? = some (.cells #[.int .i64 0, .slice A5 3 c5] 29 (0, 0)) ∧ (Kd.int .u8).C w8 A5 3 hel ∧ Below w.heap.size w w8 from fun w8 n8 h8 => by
    rw [h8]
    obtain ⟨_, _, h⟩ := Kd.R_reads' (Kd.R_step (w1 := w7.drewN n8) HR7.out (fun _ _ _ => rfl))
    exact ⟨Fw.Sep.drawn H7.out n8, HE7.out, h, below_drN HB7.out n8⟩)
  go_upto_region 10 with (go_at_call 11; refine K6.out.mono ?_; rintro e w8 ⟨rfl, n8, h8⟩; obtain ⟨F1, F2, F3, F4⟩ := FA.out w8 n8 h8; have H8 := Lib.hid F1; have HE8 := Lib.hid F2; have HR8 := Lib.hid F3; have HB8 := Lib.hid F4; clear h8 F1 F2 F3 F4)
  have x1 := cell_cellsN HE8.out 1 (by simp)
  dsimp only [List.getElem_toArray, List.getElem_cons_zero, List.getElem_cons_succ] at x1
  have qs := fun (V : World) (A : Option Addr) (c : Nat) (hC : (Kd.int .u8).C V A 3 hel) => Kd.C_string (src := 22) (dst := 9) (e := 5) (c := c) Try.underlying22 Try.underlying5 Try.underlying9 hC
  have e1 : strOfNums hel = (⟨#[104, 101, 108]⟩ : ByteArray) := by rfl
  rw [e1] at qs
  have QS := Lib.hid qs
  have qs8 := qs w8 A5 c5 HR8.out
  have hs8 := HB8.out.size
  have ER := Lib.hid (show readB rA 9 = hel from rfl)
  have HRd := Lib.hid (fun (W : World) (b : Nat) (o : Nat → Prop) (v : Value) (h : (Kd.int .u8).R 5 W b o v hel) => show ∃ A c, v = .slice A 3 c ∧ 3 ≤ c ∧ (Kd.int .u8).C W A 3 hel from Kd.R_reads h)
  clear qs e1
  go_wp2_with (go_at_call 13; refine (dd_read 9 H8.out hs8).mono ?_; rintro e w9 ⟨v9, rfl, hR9, _, _, hb9⟩; rw [ER.out] at hR9; obtain ⟨A9, c9, rfl, hc9, hC9⟩ := HRd.out _ _ _ _ hR9; have qs9 := QS.out w9 A9 c9 hC9; have HB9 := Lib.hid (HB8.out.trans hb9); clear hR9 hC9 hb9)
  go_ret
  exact ⟨rfl, HB9.out⟩
end Go.Proofs.Ytgkcncdanhkkoaa.Fw
