/-
  vouch.Read: whatever the bytes: the voucher that they are, or refused. Condition: bytes are bytes.
-/
import Derived.Test.YtmidmdbhbhjcdaaVp
import Derived.Test.YtmidmdbhbhjcdaaSeqEach
import Derived.Maps.AppendAt
import Derived.RangeFuncBox
import Derived.Deep.RegionHeld3
namespace Go.Proofs.Ytmidmdbhbhjcdaa.By
open Go.RowKit Go.Shelf Go.Proofs.Ytmidmdbhbhjcdaa.Sp Go.Proofs.Ytmidmdbhbhjcdaa.H Go.Proofs.Ytmidmdbhbhjcdaa.Uv Go.Proofs.Ytmidmdbhbhjcdaa.Fr Go.Proofs.YtmidmdbhbhjcdaaW.PrintWords Go.Proofs.YtmidmdbhbhjcdaaW.PrintLast Go.Proofs.YtmidmdbhbhjcdaaW.PrintMore
set_option linter.unusedVariables false
set_option linter.unusedSimpArgs false
attribute [local go_sem] Oper.semAt_some
theorem wp_calm {P : Program} {c : Code} {Q : Exit → Act → World → Prop} {a : Act} {w : World} (h : c.wp P (Exit.then (fun a w => Q .normal a w) (fun _ _ _ => False)) a w) : c.wp P Q a w :=
  wp_mono h (by
    intro e a w h
    cases e <;> first | exact h | exact h.elim)
theorem uget_n (w : World) (A : Option Addr) (n c : Nat) (l : List Int) (hn : n = l.length) (hr : (Kd.int .u8).C w A n l) (hc : n ≤ c) (hb : Bytes l) (v k e : Int) (h : getI l = (v, k, e)) : Calls Try.prog 24 #[.slice A n c] w fun r w' => r = .returned (.tuple #[.int .u64 v, .int .i64 k, .int .i64 e]) ∧ Below w.heap.size w w' := by
  subst hn
  have := uget_calls w A c l hr hc hb
  rwa [h] at this
theorem rget_n (w : World) (A : Option Addr) (n c : Nat) (l : List Int) (hn : n = l.length) (hr : (Kd.int .u8).C w A n l) (hc : n ≤ c) (hb : Bytes l) (v k e : Int) (h : getI l = (v, k, e)) : Calls Try.prog 31 #[.slice A n c] w fun r w' => r = .returned (.tuple #[.int .u64 v, .int .i64 k, .int .i64 e]) ∧ Drawn0 w w' := by
  subst hn
  have := rget_calls w A c l hr hc hb
  rwa [h] at this
/-- What a voucher's bytes come to, as five results. -/
noncomputable def readR (l : List Int) : Value := .tuple #[.int .i64 (readV l).1, .int .i64 (readV l).2.1, .int .i64 (readV l).2.2.1, .int .u64 (readV l).2.2.2.1, .int .i64 (readV l).2.2.2.2]
theorem readR_bad {l : List Int} (h : ∀ r p u tag, ¬ Good l r p u tag) : readR l = .tuple #[.int .i64 0, .int .i64 0, .int .i64 0, .int .u64 0, .int .i64 3] := by unfold readR; rw [readV_bad h]
theorem readR_good {l : List Int} {r p u tag : Int} (h : Good l r p u tag) : readR l = .tuple #[.int .i64 r, .int .i64 p, .int .i64 u, .int .u64 tag, .int .i64 0] := by unfold readR; rw [readV_good h]
theorem cut_any (w : World) (A : Option Addr) (n c : Nat) (l : List Int) (hn : n = l.length) (hr : Kd.C (Kd.int .u8) w A n l) (hc : n ≤ c) (hb : Bytes l) (B : Option Addr) (c1 : Nat) (h1 : Kd.C (Kd.int .u8) w B 3 markL) (hc1 : 3 ≤ c1) :
    Calls Try.prog 25 #[.slice A n c, .slice B 3 c1] w fun e w' => (∃ A' n' c', e = .returned (.tuple #[.slice A' n' c', .bool (decide (l.take 3 = markL))])) ∧ Drawn0 w w' := by
  by_cases h : l.take 3 = markL
  · rw [decide_eq_true h]
    exact (cut_yes w A n c l hn hr hc hb B c1 h1 hc1 h).mono fun e w' ⟨⟨A', h2, _⟩, h3⟩ => ⟨⟨A', _, _, h2⟩, h3⟩
  · rw [decide_eq_false h]
    exact (cut_no w A n c l hn hr hc hb B c1 h1 hc1 h).mono fun e w' ⟨h2, h3⟩ => ⟨⟨_, _, _, h2⟩, h3⟩
set_option maxRecDepth 100000 in
set_option maxHeartbeats 2000000 in
theorem read_none (w : World) (A : Option Addr) (c : Nat) (l : List Int) (hr : Kd.C (Kd.int .u8) w A l.length l) (hc : l.length ≤ c) (hb : Bytes l) (hl : l.length ≤ 1000000) (he : ¬ (getF l).2.2 = 0) :
    Calls Try.prog 13 #[.slice A l.length c] w fun e w' => e = .returned (.tuple #[.int .i64 0, .int .i64 0, .int .i64 0, .int .u64 0, .int .i64 3]) ∧ Below w.heap.size w w' := by
  have hq := fget_calls w A c l hr hc hb (by omega)
  obtain ⟨⟨t, k, e⟩, hF⟩ : ∃ q, getF l = q := ⟨_, rfl⟩
  rw [hF] at hq he
  have b0 : (e != 0) = true := by simpa using he
  have HQ := Lib.hid hq
  clear hq he hF hr
  go_enter Try.func13, Try.ntmps13
  go_wp2_with (go_at_call 23; with_reducible refine HQ.out.mono ?_; rintro e1 w1 ⟨v0, rfl, hR, hb1⟩; have HB := Lib.hid hb1; clear hb1 hR)
  refine bodyPost_ret (v := .tuple #[.int .i64 0, .int .i64 0, .int .i64 0, .int .u64 0, .int .i64 3]) (by simp [results, Try.results13, go_sem]) rfl ?_
  exact ⟨rfl, HB.out⟩
set_option maxRecDepth 100000 in
set_option maxHeartbeats 2000000 in
theorem read_off (w : World) (A : Option Addr) (c : Nat) (l : List Int) (hr : Kd.C (Kd.int .u8) w A l.length l) (hc : l.length ≤ c) (hb : Bytes l) (hl : l.length ≤ 1000000) (t : List Int) (k tag n e : Int) (hF : getF l = (t, k, 0)) (hG : getI (l.drop k.toNat) = (tag, n, e)) (hno : ¬ (e = 0 ∧ k + n = l.length ∧ t.take 3 = markL)) :
    Calls Try.prog 13 #[.slice A l.length c] w fun e w' => e = .returned (.tuple #[.int .i64 0, .int .i64 0, .int .i64 0, .int .u64 0, .int .i64 3]) ∧ Below w.heap.size w w' := by
  have hq := fget_calls w A c l hr hc hb (by omega)
  rw [hF] at hq
  dsimp only at hq
  obtain ⟨hk0, hloop, hkl, htl, htb⟩ := getF_ok hb hF
  clear hloop
  obtain ⟨i0, hi0, _, hsz0, _⟩ := info_parts info8
  obtain ⟨A9, hcut9, hA9, hC9⟩ := print_drop_of (P := Try.prog) (Value.int .u8) 0 22 5 .i64 Try.underlying22 hi0 hsz0 A c l k hk0 (by omega) hc
  obtain ⟨m, hm⟩ : ∃ m, (l.drop k.toNat).length = m := ⟨_, rfl⟩
  obtain ⟨tn, htn⟩ : ∃ m, t.length = m := ⟨_, rfl⟩
  rw [hm] at hcut9 hC9 hA9
  have HC9 := Lib.hid (fun (W : World) (h : Below w.heap.size w W) => Kd.C_of_reads (h1 := fun _ => rfl) (hA9 W (Kd.reads_of_C (Kd.C_below hr h))))
  have HU := Lib.hid (fun (W : World) (h : Below w.heap.size w W) => uget_n W A9 m (c - k.toNat) (l.drop k.toNat) hm.symm (HC9.out W h) hC9 (hb.drop _) tag n e hG)
  have hkn : -9223372036854775808 ≤ k + n ∧ k + n ≤ 9223372036854775807 ∨ ¬ e = 0 := by
    by_cases h : e = 0
    · have := getI_in (hb.drop k.toNat) (by rw [hG]; exact h)
      rw [hG] at this
      dsimp only at this
      rw [hm] at this
      left
      have h3 : m ≤ l.length := by rw [← hm, List.length_drop]; omega
      omega
    · exact .inr h
  have HQ := Lib.hid hq
  have HT := Lib.hid htb
  have HTN := Lib.hid htn
  have HM := Lib.hid hm
  have HKN := Lib.hid hkn
  have HNO := Lib.hid hno
  clear hq hA9 hi0 hsz0 hF hG htb htn hm hb htl hkn hno
  have qc : ∀ (w : World), _ := fun w => Lib.run_convert_bytes_const (P := Try.prog) w 22 5 #[.int .u8 118, .int .u8 99, .int .u8 104] 3 3 Try.underlying22 Try.underlying5
  go_enter Try.func13, Try.ntmps13
  go_upto_region 5 with (first
    | (go_at_call 23; with_reducible refine HQ.out.mono ?_; rintro e1 w1 ⟨v1, rfl, hR1, hb1⟩; obtain ⟨A1, c1, hv1, hc1, hC1⟩ := Kd.R_reads hR1; rw [HTN.out] at hv1 hC1 hc1; subst hv1; have HC1 := Lib.hid hC1; have HB1 := Lib.hid hb1; clear hR1 hb1 hC1)
    | (go_at_call 24; with_reducible refine (HU.out _ HB1.out).mono ?_; rintro e2 w2 ⟨rfl, hb2⟩; have HB2 := Lib.hid (HB1.out.trans (hb2.mono HB1.out.size)); have HC2 := Lib.hid (Kd.C_below HC1.out hb2); clear hb2))
  obtain ⟨W, hW⟩ : ∃ W, w2.alloc (.cells #[.int .u8 118, .int .u8 99, .int .u8 104] 5 (3, 4)) = W := ⟨_, rfl⟩
  have HC0 := Lib.hid (show (Kd.int .u8).C W (some ⟨w2.heap.size, 0, none⟩) 3 markL from by rw [← hW]; exact mark_C w2 4)
  have HBW0 := Lib.hid (show Below w2.heap.size w2 W from by rw [← hW]; exact below_mark w2)
  have HBW := Lib.hid (HB2.out.trans (HBW0.out.mono HB2.out.size))
  have HX := Lib.hid (cut_any W A1 tn c1 t HTN.out.symm (Kd.C_below HC2.out HBW0.out) hc1 HT.out (some ⟨w2.heap.size, 0, none⟩) 3 HC0.out (Nat.le_refl _))
  go_upto_region 6 with (go_at_call 25; with_reducible refine HX.out.mono ?_; rintro e3 w3 ⟨⟨A3, n3, c3, rfl⟩, hd3⟩; have HB3 := Lib.hid (HBW.out.trans (hd3.below.mono HBW.out.size)); clear hd3)
  clear hW qc hcut9
  have hkn := HKN.out
  have hno := HNO.out
  by_cases h0 : e = 0
  · have b0 : (e != 0) = false := by simp [h0]
    have b0' : ((0:Int) != 0) = false := rfl
    subst h0
    have hkn : -9223372036854775808 ≤ k + n ∧ k + n ≤ 9223372036854775807 := hkn.resolve_right (fun h => h rfl)
    have hw : IntKind.i64.wrap (k + n) = k + n := i64_of hkn
    by_cases h1 : k + n = l.length
    · have h2 : ¬ t.take 3 = markL := fun h => hno ⟨rfl, h1, h⟩
      have b1 : (k + n != (l.length : Int)) = false := by simpa using h1
      have b2 : decide (t.take 3 = markL) = false := decide_eq_false h2
      clear h1 hno h2
      go_wp2
      refine bodyPost_ret (v := .tuple #[.int .i64 0, .int .i64 0, .int .i64 0, .int .u64 0, .int .i64 3]) (by simp [results, Try.results13, go_sem]) rfl ?_
      exact ⟨rfl, HB3.out⟩
    · have b1 : (k + n != (l.length : Int)) = true := by simpa using h1
      clear h1 hno
      go_wp2
      refine bodyPost_ret (v := .tuple #[.int .i64 0, .int .i64 0, .int .i64 0, .int .u64 0, .int .i64 3]) (by simp [results, Try.results13, go_sem]) rfl ?_
      exact ⟨rfl, HB3.out⟩
  · have b0 : (e != 0) = true := by simpa using h0
    clear h0 hkn hno
    go_wp2
    refine bodyPost_ret (v := .tuple #[.int .i64 0, .int .i64 0, .int .i64 0, .int .u64 0, .int .i64 3]) (by simp [results, Try.results13, go_sem]) rfl ?_
    exact ⟨rfl, HB3.out⟩
end Go.Proofs.Ytmidmdbhbhjcdaa.By
