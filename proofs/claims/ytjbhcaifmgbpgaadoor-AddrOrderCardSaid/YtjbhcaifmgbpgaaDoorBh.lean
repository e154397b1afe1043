/-
  addr: the walk of AddrOrder. Conditions: as the theorems state them.
-/
import Derived.Test.YtjbhcaifmgbpgaaDoorBg
namespace Go.Proofs.YtjbhcaifmgbpgaaDoor.Ad
open Go Go.RowKit Go.Shelf Go.Proofs.YtjbhcaifmgbpgaaDoorW.PrintWords Go.Proofs.YtjbhcaifmgbpgaaDoorW.PrintLast Go.Proofs.YtjbhcaifmgbpgaaDoorW.PrintMore
set_option linter.unusedVariables false
set_option linter.unusedSimpArgs false
attribute [local go_sem] Oper.semAt_some
set_option maxRecDepth 100000 in
set_option maxHeartbeats 8000000 in
theorem order_calls (w : World) (hE : Env w) (h1 p1 h2 p2 h3 p3 : Int) (u1 : U32 h1) (j1 : -9223372036854775808 ≤ p1 ∧ p1 ≤ 9223372036854775807) (u2 : U32 h2) (j2 : -9223372036854775808 ≤ p2 ∧ p2 ≤ 9223372036854775807) (u3 : U32 h3) (j3 : -9223372036854775808 ≤ p3 ∧ p3 ≤ 9223372036854775807) : Calls Tryd.prog 7 #[.agg #[.int .u32 h1, .int .i64 p1], .agg #[.int .u32 h2, .int .i64 p2], .agg #[.int .u32 h3, .int .i64 p3]] w fun e w' => e = .returned (.bool true) ∧ Below w.heap.size w w' := by
  clear j1 j2 j3 u3
  obtain ⟨W1, hW1⟩ : ∃ W, w.alloc (.cells #[.int .u32 h1, .int .i64 p1] 24) = W := ⟨_, rfl⟩
  have hb1 : Below w.heap.size w W1 := by rw [← hW1]; exact (Below.refl _ _).alloc (Nat.le_refl _) _
  have hs1 : W1.heap.size = w.heap.size + 1 := by rw [← hW1, World.size_alloc]
  have ha1 : AdAt W1 w.heap.size h1 p1 := by rw [← hW1]; exact ad_new _ _ _
  obtain ⟨W2, hW2⟩ : ∃ W, W1.alloc (.cells #[.int .u32 h2, .int .i64 p2] 24) = W := ⟨_, rfl⟩
  have hb2 : Below W1.heap.size W1 W2 := by rw [← hW2]; exact (Below.refl _ _).alloc (Nat.le_refl _) _
  have hs2 : W2.heap.size = w.heap.size + 1 + 1 := by rw [← hW2, World.size_alloc, hs1]
  have ha2 : AdAt W2 (w.heap.size + 1) h2 p2 := by rw [← hW2, ← hs1]; exact ad_new _ _ _
  obtain ⟨W, hW⟩ : ∃ W, W2.alloc (.cells #[.int .u32 h3, .int .i64 p3] 24) = W := ⟨_, rfl⟩
  have hb3 : Below W2.heap.size W2 W := by rw [← hW]; exact (Below.refl _ _).alloc (Nat.le_refl _) _
  have ha3 : AdAt W (w.heap.size + 1 + 1) h3 p3 := by rw [← hW, ← hs2]; exact ad_new _ _ _
  have hbw := hb1.trans ((hb2.trans (hb3.mono hb2.size)).mono hb1.size)
  have HB := Lib.hid hbw
  have HA := Lib.hid ((ha1.below hb2).below hb3)
  have HC := Lib.hid (ha2.below hb3)
  have HD := Lib.hid ha3
  have KA := Lib.hid (awake_calls W (hE.below hbw))
  obtain ⟨x, hx⟩ : ∃ x, cmpA h1 p1 h2 p2 = x := ⟨_, rfl⟩
  obtain ⟨y, hy⟩ : ∃ y, cmpA h2 p2 h3 p3 = y := ⟨_, rfl⟩
  obtain ⟨z, hz⟩ : ∃ z, cmpA h1 p1 h3 p3 = z := ⟨_, rfl⟩
  have hxi := cmpA_in h1 p1 h2 p2
  rw [hx] at hxi
  have hng : wrap64 (-x) = -x := by unfold wrap64; omega
  have K12 : Hid (∀ V, Calls Tryd.prog 21 #[.agg #[.int .u32 h1, .int .i64 p1], .agg #[.int .u32 h2, .int .i64 p2]] V fun e w' => e = .returned (.int .i64 x) ∧ Below V.heap.size V w') := Lib.hid (fun V => by have := compare_calls V h1 p1 h2 p2; rwa [hx] at this)
  have K21 : Hid (∀ V, Calls Tryd.prog 21 #[.agg #[.int .u32 h2, .int .i64 p2], .agg #[.int .u32 h1, .int .i64 p1]] V fun e w' => e = .returned (.int .i64 (-x)) ∧ Below V.heap.size V w') := Lib.hid (fun V => by have := compare_calls V h2 p2 h1 p1; rwa [cmpA_neg, hx] at this)
  have K11 : Hid (∀ V, Calls Tryd.prog 21 #[.agg #[.int .u32 h1, .int .i64 p1], .agg #[.int .u32 h1, .int .i64 p1]] V fun e w' => e = .returned (.int .i64 0) ∧ Below V.heap.size V w') := Lib.hid (fun V => by have := compare_calls V h1 p1 h1 p1; rwa [cmpA_self] at this)
  have K23 : Hid (∀ V, Calls Tryd.prog 21 #[.agg #[.int .u32 h2, .int .i64 p2], .agg #[.int .u32 h3, .int .i64 p3]] V fun e w' => e = .returned (.int .i64 y) ∧ Below V.heap.size V w') := Lib.hid (fun V => by have := compare_calls V h2 p2 h3 p3; rwa [hy] at this)
  have K13 : Hid (∀ V, Calls Tryd.prog 21 #[.agg #[.int .u32 h1, .int .i64 p1], .agg #[.int .u32 h3, .int .i64 p3]] V fun e w' => e = .returned (.int .i64 z) ∧ Below V.heap.size V w') := Lib.hid (fun V => by have := compare_calls V h1 p1 h3 p3; rwa [hz] at this)
  have HTR : Hid (x ≤ 0 → y ≤ 0 → z ≤ 0) := Lib.hid (fun a b => by rw [← hz]; rw [← hx] at a; rw [← hy] at b; exact cmpA_trans a b)
  have HX := Lib.hid hx
  have HU := Lib.hid (And.intro u1 u2)
  clear hb1 hb2 hb3 ha1 ha2 ha3 hbw hE hx hy hz hxi u1 u2
  go_enter Tryd.func7, Tryd.ntmps7
  go_upto_region 1 with fail
  clear hW hW1 hW2 hs1 hs2
  go_upto_region 3 with (go_at_call 9; refine KA.out.mono ?_; rintro e w1 ⟨rfl, hb1⟩; have HB1 := Lib.hid (HB.out.trans (hb1.mono HB.out.size)); have HA1 := Lib.hid (HA.out.below hb1); have HC1 := Lib.hid (HC.out.below hb1); have HD1 := Lib.hid (HD.out.below hb1); clear hb1)
  obtain ⟨⟨a0, a1⟩, _⟩ := HA1.out.cells
  obtain ⟨⟨c0, c1⟩, _⟩ := HC1.out.cells
  go_upto_region 4 with (go_at_call 21; refine (K12.out _).mono ?_; rintro e w2 ⟨rfl, hb2⟩; have HB2 := Lib.hid (HB1.out.trans (hb2.mono HB1.out.size)); have HA2 := Lib.hid (HA1.out.below hb2); have HC2 := Lib.hid (HC1.out.below hb2); have HD2 := Lib.hid (HD1.out.below hb2); clear hb2)
  clear a0 a1 c0 c1
  obtain ⟨⟨a0, a1⟩, _⟩ := HA2.out.cells
  obtain ⟨⟨c0, c1⟩, _⟩ := HC2.out.cells
  have qx : ((-x) == (-x)) = true := by simp
  go_upto_region 6 with (first
    | (go_at_call 21; (with_reducible refine (K21.out _).mono ?_); rintro e w3 ⟨rfl, hb3⟩; have HB3 := Lib.hid (HB2.out.trans (hb3.mono HB2.out.size)); have HA3 := Lib.hid (HA2.out.below hb3); have HC3 := Lib.hid (HC2.out.below hb3); have HD3 := Lib.hid (HD2.out.below hb3); obtain ⟨⟨b0, b1⟩, _⟩ := HA3.out.cells; clear hb3)
    | (go_at_call 21; (with_reducible refine (K11.out _).mono ?_); rintro e w4 ⟨rfl, hb4⟩; have HB4 := Lib.hid (HB3.out.trans (hb4.mono HB3.out.size)); have HA4 := Lib.hid (HA3.out.below hb4); have HC4 := Lib.hid (HC3.out.below hb4); have HD4 := Lib.hid (HD3.out.below hb4); clear hb4))
  obtain ⟨⟨a0, a1⟩, _⟩ := HA4.out.cells
  obtain ⟨⟨c0, c1⟩, _⟩ := HC4.out.cells
  by_cases hx0 : x ≤ 0
  · have b1 : decide (x ≤ 0) = true := decide_eq_true hx0
    obtain ⟨⟨e0, e1⟩, _⟩ := HD4.out.cells
    by_cases hy0 : y ≤ 0
    · have b2 : decide (y ≤ 0) = true := decide_eq_true hy0
      have hz0 := HTR.out hx0 hy0
      have b3 : decide (z > 0) = false := decide_eq_false (by omega)
      have b4 : decide (0 < z) = false := decide_eq_false (by omega)
      clear hx0 hy0 hz0
      go_upto_region 8 with (first
        | (go_at_call 21; (with_reducible refine (K23.out _).mono ?_); rintro e w5 ⟨rfl, hb5⟩; have HB5 := Lib.hid (HB4.out.trans (hb5.mono HB4.out.size)); have HA5 := Lib.hid (HA4.out.below hb5); have HC5 := Lib.hid (HC4.out.below hb5); have HD5 := Lib.hid (HD4.out.below hb5); obtain ⟨⟨f0, f1⟩, _⟩ := HA5.out.cells; obtain ⟨⟨f2, f3⟩, _⟩ := HD5.out.cells; clear hb5)
        | (go_at_call 21; (with_reducible refine (K13.out _).mono ?_); rintro e w9 ⟨rfl, hb9⟩; have HB9 := Lib.hid (HB5.out.trans (hb9.mono HB5.out.size)); have HA9 := Lib.hid (HA5.out.below hb9); have HC9 := Lib.hid (HC5.out.below hb9); clear hb9))
      clear b1 b2 b3 b4 e0 e1
      clear a0 a1 c0 c1
      obtain ⟨⟨a0, a1⟩, _⟩ := HA9.out.cells
      have KM1 := Lib.hid (fun V => may_calls V h1 p1)
      have KM2 := Lib.hid (fun V => may_calls V h2 p2)
      obtain ⟨m1, hm1⟩ : ∃ m, mayA h1 p1 = m := ⟨_, rfl⟩
      obtain ⟨m2, hm2⟩ : ∃ m, mayA h2 p2 = m := ⟨_, rfl⟩
      rw [hm1] at KM1
      rw [hm2] at KM2
      have HM1 := Lib.hid hm1
      have HM2 := Lib.hid hm2
      clear hm1 hm2
      cases m1 with
      | false =>
        go_wp2_with (go_at_call 17; (with_reducible refine (KM1.out _).mono ?_); rintro e w10 ⟨rfl, hb10⟩; have HB10 := Lib.hid (HB9.out.trans (hb10.mono HB9.out.size)); clear hb10)
        go_ret
        exact ⟨rfl, HB10.out⟩
      | true =>
        cases m2 with
        | false =>
          go_wp2_with (first
            | (go_at_call 17; (with_reducible refine (KM1.out _).mono ?_); rintro e w10 ⟨rfl, hb10⟩; have HB10 := Lib.hid (HB9.out.trans (hb10.mono HB9.out.size)); have HC10 := Lib.hid (HC9.out.below hb10); obtain ⟨⟨c0, c1⟩, _⟩ := HC10.out.cells; clear hb10)
            | (go_at_call 17; (with_reducible refine (KM2.out _).mono ?_); rintro e w11 ⟨rfl, hb11⟩; have HB11 := Lib.hid (HB10.out.trans (hb11.mono HB10.out.size)); clear hb11))
          go_ret
          exact ⟨rfl, HB11.out⟩
        | true =>
          go_upto_region 10 with (first
            | (go_at_call 17; (with_reducible refine (KM1.out _).mono ?_); rintro e w10 ⟨rfl, hb10⟩; have HB10 := Lib.hid (HB9.out.trans (hb10.mono HB9.out.size)); have HA10 := Lib.hid (HA9.out.below hb10); have HC10 := Lib.hid (HC9.out.below hb10); obtain ⟨⟨c0, c1⟩, _⟩ := HC10.out.cells; clear hb10)
            | (go_at_call 17; (with_reducible refine (KM2.out _).mono ?_); rintro e w11 ⟨rfl, hb11⟩; have HB11 := Lib.hid (HB10.out.trans (hb11.mono HB10.out.size)); have HA11 := Lib.hid (HA10.out.below hb11); have HC11 := Lib.hid (HC10.out.below hb11); clear hb11))
          clear a0 a1 c0 c1
          obtain ⟨⟨a0, a1⟩, _⟩ := HA11.out.cells
          go_upto_region 11 with (go_at_call 18; (with_reducible refine (bytes_yes _ h1 p1 HU.out.1 HM1.out).mono ?_); rintro e w12 ⟨g1, rfl, _, hg1, hb12⟩; have HB12 := Lib.hid (HB11.out.trans (hb12.mono HB11.out.size)); have HC12 := Lib.hid (HC11.out.below hb12); have kc1 := conv_six hg1; clear hb12 hg1)
          clear a0 a1 kc1
          obtain ⟨⟨c0, c1⟩, _⟩ := HC12.out.cells
          go_upto_region 12 with (go_at_call 18; (with_reducible refine (bytes_yes _ h2 p2 HU.out.2 HM2.out).mono ?_); rintro e w13 ⟨g2, rfl, _, hg2, hb13⟩; have HB13 := Lib.hid (HB12.out.trans (hb13.mono HB12.out.size)); have kc2 := conv_six hg2; clear hb13 hg2)
          clear c0 c1 kc2
          have ql := strA_less HU.out.1 HU.out.2 HM1.out HM2.out
          have qe := strA_same HU.out.1 HU.out.2 HM1.out HM2.out
          rw [HX.out] at ql qe
          obtain ⟨s1, hs1⟩ : ∃ s, strA h1 p1 = s := ⟨_, rfl⟩
          obtain ⟨s2, hs2⟩ : ∃ s, strA h2 p2 = s := ⟨_, rfl⟩
          rw [hs1, hs2] at ql qe ⊢
          have q4 : (x == 0) = decide (x = 0) := by rw [Bool.eq_iff_iff, beq_iff_eq, decide_eq_true_iff]
          obtain ⟨bl, hbl⟩ : ∃ b, decide (x < 0) = b := ⟨_, rfl⟩
          obtain ⟨be, hbe⟩ : ∃ b, decide (x = 0) = b := ⟨_, rfl⟩
          rw [hbl] at ql
          rw [hbe] at qe q4
          clear hs1 hs2 hbe
          cases bl <;> cases be
          all_goals go_wp2
          all_goals go_ret
          all_goals exact ⟨rfl, HB13.out⟩
    · have b2 : decide (y ≤ 0) = false := decide_eq_false hy0
      clear hx0 hy0
      go_upto_region 8 with (go_at_call 21; (with_reducible refine (K23.out _).mono ?_); rintro e w9 ⟨rfl, hb9⟩; have HB9 := Lib.hid (HB4.out.trans (hb9.mono HB4.out.size)); have HA9 := Lib.hid (HA4.out.below hb9); have HC9 := Lib.hid (HC4.out.below hb9); clear hb9)
      clear b1 b2 e0 e1
      clear a0 a1 c0 c1
      obtain ⟨⟨a0, a1⟩, _⟩ := HA9.out.cells
      have KM1 := Lib.hid (fun V => may_calls V h1 p1)
      have KM2 := Lib.hid (fun V => may_calls V h2 p2)
      obtain ⟨m1, hm1⟩ : ∃ m, mayA h1 p1 = m := ⟨_, rfl⟩
      obtain ⟨m2, hm2⟩ : ∃ m, mayA h2 p2 = m := ⟨_, rfl⟩
      rw [hm1] at KM1
      rw [hm2] at KM2
      have HM1 := Lib.hid hm1
      have HM2 := Lib.hid hm2
      clear hm1 hm2
      cases m1 with
      | false =>
        go_wp2_with (go_at_call 17; (with_reducible refine (KM1.out _).mono ?_); rintro e w10 ⟨rfl, hb10⟩; have HB10 := Lib.hid (HB9.out.trans (hb10.mono HB9.out.size)); clear hb10)
        go_ret
        exact ⟨rfl, HB10.out⟩
      | true =>
        cases m2 with
        | false =>
          go_wp2_with (first
            | (go_at_call 17; (with_reducible refine (KM1.out _).mono ?_); rintro e w10 ⟨rfl, hb10⟩; have HB10 := Lib.hid (HB9.out.trans (hb10.mono HB9.out.size)); have HC10 := Lib.hid (HC9.out.below hb10); obtain ⟨⟨c0, c1⟩, _⟩ := HC10.out.cells; clear hb10)
            | (go_at_call 17; (with_reducible refine (KM2.out _).mono ?_); rintro e w11 ⟨rfl, hb11⟩; have HB11 := Lib.hid (HB10.out.trans (hb11.mono HB10.out.size)); clear hb11))
          go_ret
          exact ⟨rfl, HB11.out⟩
        | true =>
          go_upto_region 10 with (first
            | (go_at_call 17; (with_reducible refine (KM1.out _).mono ?_); rintro e w10 ⟨rfl, hb10⟩; have HB10 := Lib.hid (HB9.out.trans (hb10.mono HB9.out.size)); have HA10 := Lib.hid (HA9.out.below hb10); have HC10 := Lib.hid (HC9.out.below hb10); obtain ⟨⟨c0, c1⟩, _⟩ := HC10.out.cells; clear hb10)
            | (go_at_call 17; (with_reducible refine (KM2.out _).mono ?_); rintro e w11 ⟨rfl, hb11⟩; have HB11 := Lib.hid (HB10.out.trans (hb11.mono HB10.out.size)); have HA11 := Lib.hid (HA10.out.below hb11); have HC11 := Lib.hid (HC10.out.below hb11); clear hb11))
          clear a0 a1 c0 c1
          obtain ⟨⟨a0, a1⟩, _⟩ := HA11.out.cells
          go_upto_region 11 with (go_at_call 18; (with_reducible refine (bytes_yes _ h1 p1 HU.out.1 HM1.out).mono ?_); rintro e w12 ⟨g1, rfl, _, hg1, hb12⟩; have HB12 := Lib.hid (HB11.out.trans (hb12.mono HB11.out.size)); have HC12 := Lib.hid (HC11.out.below hb12); have kc1 := conv_six hg1; clear hb12 hg1)
          clear a0 a1 kc1
          obtain ⟨⟨c0, c1⟩, _⟩ := HC12.out.cells
          go_upto_region 12 with (go_at_call 18; (with_reducible refine (bytes_yes _ h2 p2 HU.out.2 HM2.out).mono ?_); rintro e w13 ⟨g2, rfl, _, hg2, hb13⟩; have HB13 := Lib.hid (HB12.out.trans (hb13.mono HB12.out.size)); have kc2 := conv_six hg2; clear hb13 hg2)
          clear c0 c1 kc2
          have ql := strA_less HU.out.1 HU.out.2 HM1.out HM2.out
          have qe := strA_same HU.out.1 HU.out.2 HM1.out HM2.out
          rw [HX.out] at ql qe
          obtain ⟨s1, hs1⟩ : ∃ s, strA h1 p1 = s := ⟨_, rfl⟩
          obtain ⟨s2, hs2⟩ : ∃ s, strA h2 p2 = s := ⟨_, rfl⟩
          rw [hs1, hs2] at ql qe ⊢
          have q4 : (x == 0) = decide (x = 0) := by rw [Bool.eq_iff_iff, beq_iff_eq, decide_eq_true_iff]
          obtain ⟨bl, hbl⟩ : ∃ b, decide (x < 0) = b := ⟨_, rfl⟩
          obtain ⟨be, hbe⟩ : ∃ b, decide (x = 0) = b := ⟨_, rfl⟩
          rw [hbl] at ql
          rw [hbe] at qe q4
          clear hs1 hs2 hbe
          cases bl <;> cases be
          all_goals go_wp2
          all_goals go_ret
          all_goals exact ⟨rfl, HB13.out⟩
  · have b1 : decide (x ≤ 0) = false := decide_eq_false hx0
    clear hx0
    go_upto_region 8 with fail
    have HB9 := HB4
    have HA9 := HA4
    have HC9 := HC4
    clear b1
    clear a0 a1 c0 c1
    obtain ⟨⟨a0, a1⟩, _⟩ := HA9.out.cells
    have KM1 := Lib.hid (fun V => may_calls V h1 p1)
    have KM2 := Lib.hid (fun V => may_calls V h2 p2)
    obtain ⟨m1, hm1⟩ : ∃ m, mayA h1 p1 = m := ⟨_, rfl⟩
    obtain ⟨m2, hm2⟩ : ∃ m, mayA h2 p2 = m := ⟨_, rfl⟩
    rw [hm1] at KM1
    rw [hm2] at KM2
    have HM1 := Lib.hid hm1
    have HM2 := Lib.hid hm2
    clear hm1 hm2
    cases m1 with
    | false =>
      go_wp2_with (go_at_call 17; (with_reducible refine (KM1.out _).mono ?_); rintro e w10 ⟨rfl, hb10⟩; have HB10 := Lib.hid (HB9.out.trans (hb10.mono HB9.out.size)); clear hb10)
      go_ret
      exact ⟨rfl, HB10.out⟩
    | true =>
      cases m2 with
      | false =>
        go_wp2_with (first
          | (go_at_call 17; (with_reducible refine (KM1.out _).mono ?_); rintro e w10 ⟨rfl, hb10⟩; have HB10 := Lib.hid (HB9.out.trans (hb10.mono HB9.out.size)); have HC10 := Lib.hid (HC9.out.below hb10); obtain ⟨⟨c0, c1⟩, _⟩ := HC10.out.cells; clear hb10)
          | (go_at_call 17; (with_reducible refine (KM2.out _).mono ?_); rintro e w11 ⟨rfl, hb11⟩; have HB11 := Lib.hid (HB10.out.trans (hb11.mono HB10.out.size)); clear hb11))
        go_ret
        exact ⟨rfl, HB11.out⟩
      | true =>
        go_upto_region 10 with (first
          | (go_at_call 17; (with_reducible refine (KM1.out _).mono ?_); rintro e w10 ⟨rfl, hb10⟩; have HB10 := Lib.hid (HB9.out.trans (hb10.mono HB9.out.size)); have HA10 := Lib.hid (HA9.out.below hb10); have HC10 := Lib.hid (HC9.out.below hb10); obtain ⟨⟨c0, c1⟩, _⟩ := HC10.out.cells; clear hb10)
          | (go_at_call 17; (with_reducible refine (KM2.out _).mono ?_); rintro e w11 ⟨rfl, hb11⟩; have HB11 := Lib.hid (HB10.out.trans (hb11.mono HB10.out.size)); have HA11 := Lib.hid (HA10.out.below hb11); have HC11 := Lib.hid (HC10.out.below hb11); clear hb11))
        clear a0 a1 c0 c1
        obtain ⟨⟨a0, a1⟩, _⟩ := HA11.out.cells
        go_upto_region 11 with (go_at_call 18; (with_reducible refine (bytes_yes _ h1 p1 HU.out.1 HM1.out).mono ?_); rintro e w12 ⟨g1, rfl, _, hg1, hb12⟩; have HB12 := Lib.hid (HB11.out.trans (hb12.mono HB11.out.size)); have HC12 := Lib.hid (HC11.out.below hb12); have kc1 := conv_six hg1; clear hb12 hg1)
        clear a0 a1 kc1
        obtain ⟨⟨c0, c1⟩, _⟩ := HC12.out.cells
        go_upto_region 12 with (go_at_call 18; (with_reducible refine (bytes_yes _ h2 p2 HU.out.2 HM2.out).mono ?_); rintro e w13 ⟨g2, rfl, _, hg2, hb13⟩; have HB13 := Lib.hid (HB12.out.trans (hb13.mono HB12.out.size)); have kc2 := conv_six hg2; clear hb13 hg2)
        clear c0 c1 kc2
        have ql := strA_less HU.out.1 HU.out.2 HM1.out HM2.out
        have qe := strA_same HU.out.1 HU.out.2 HM1.out HM2.out
        rw [HX.out] at ql qe
        obtain ⟨s1, hs1⟩ : ∃ s, strA h1 p1 = s := ⟨_, rfl⟩
        obtain ⟨s2, hs2⟩ : ∃ s, strA h2 p2 = s := ⟨_, rfl⟩
        rw [hs1, hs2] at ql qe ⊢
        have q4 : (x == 0) = decide (x = 0) := by rw [Bool.eq_iff_iff, beq_iff_eq, decide_eq_true_iff]
        obtain ⟨bl, hbl⟩ : ∃ b, decide (x < 0) = b := ⟨_, rfl⟩
        obtain ⟨be, hbe⟩ : ∃ b, decide (x = 0) = b := ⟨_, rfl⟩
        rw [hbl] at ql
        rw [hbe] at qe q4
        clear hs1 hs2 hbe
        cases bl <;> cases be
        all_goals go_wp2
        all_goals go_ret
        all_goals exact ⟨rfl, HB13.out⟩
end Go.Proofs.YtjbhcaifmgbpgaaDoor.Ad
