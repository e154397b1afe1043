/-
  addr: the walk of AddrBytes. Conditions: as the theorems state them.
-/
import Derived.Test.YtjbhcaifmgbpgaaDoorBk
namespace Go.Proofs.YtjbhcaifmgbpgaaDoor.Ad
open Go Go.RowKit Go.Shelf Go.Proofs.YtjbhcaifmgbpgaaDoorW.PrintWords Go.Proofs.YtjbhcaifmgbpgaaDoorW.PrintLast Go.Proofs.YtjbhcaifmgbpgaaDoorW.PrintMore
set_option linter.unusedVariables false
set_option linter.unusedSimpArgs false
attribute [local go_sem] Oper.semAt_some
attribute [local go_sem] if_ad
def SBt (w : World) (g0 g1 g8 g10 : Nat) (X : Option Addr) (lx : List Int) (h1 p1 h2 p2 H P : Int) (V : World) : Prop := Below w.heap.size w V ∧ AdAt V g0 h1 p1 ∧ AdAt V g1 h2 p2 ∧ AdAt V g8 H P ∧ AdAt V g10 H P ∧ Row8 V X lx
theorem SBt.below {w : World} {g0 g1 g8 g10 : Nat} {X : Option Addr} {lx : List Int} {h1 p1 h2 p2 H P : Int} {V V' : World} (hs : SBt w g0 g1 g8 g10 X lx h1 p1 h2 p2 H P V) (hb : Below V.heap.size V V') : SBt w g0 g1 g8 g10 X lx h1 p1 h2 p2 H P V' :=
  ⟨hs.1.trans (hb.mono hs.1.size), hs.2.1.below hb, hs.2.2.1.below hb, hs.2.2.2.1.below hb, hs.2.2.2.2.1.below hb, hs.2.2.2.2.2.below hb⟩
theorem SBt.row {w : World} {g0 g1 g8 g10 : Nat} {X : Option Addr} {lx : List Int} {h1 p1 h2 p2 H P : Int} {V : World} (hs : SBt w g0 g1 g8 g10 X lx h1 p1 h2 p2 H P V) : Row8 V X lx := hs.2.2.2.2.2
theorem same_row {V : World} {X Y : Option Addr} {l : List Int} {n : Nat} (hn : l.length = n) (h : Row8 V X l) (h2 : Row8 V Y l) (hs : n ≤ 140737488355328) : Calls Tryd.prog 19 #[.slice X n n, .slice Y n n] V fun e w' => e = .returned (.bool true) ∧ Below V.heap.size V w' := by
  subst hn
  have := same_calls V X l.length l Y l.length l h (Nat.le_refl _) h2 (Nat.le_refl _) hs
  rw [decide_eq_true rfl] at this
  exact this.mono (fun _ _ q => ⟨q.1, q.2.below⟩)
set_option maxRecDepth 100000 in
set_option maxHeartbeats 8000000 in
theorem abytes_calls (w : World) (hE : Env w) (h1 p1 h2 p2 : Int) (A : Option Addr) (cap : Nat) (l : List Int) (u1 : U32 h1) (j1 : -9223372036854775808 ≤ p1 ∧ p1 ≤ 9223372036854775807) (u2 : U32 h2) (j2 : -9223372036854775808 ≤ p2 ∧ p2 ≤ 9223372036854775807) (hr : Row8 w A l) (hc : l.length ≤ cap) (hb : ∀ x ∈ l, 0 ≤ x ∧ x ≤ 255) : Calls Tryd.prog 8 #[.agg #[.int .u32 h1, .int .i64 p1], .agg #[.int .u32 h2, .int .i64 p2], .slice A l.length cap] w fun e w' => e = .returned (.bool true) ∧ Below w.heap.size w w' := by
  clear j1 j2
  obtain ⟨W1, hW1⟩ : ∃ W, w.alloc (.cells #[.int .u32 h1, .int .i64 p1] 24) = W := ⟨_, rfl⟩
  have hb1 : Below w.heap.size w W1 := by rw [← hW1]; exact (Below.refl _ _).alloc (Nat.le_refl _) _
  have hs1 : W1.heap.size = w.heap.size + 1 := by rw [← hW1, World.size_alloc]
  have ha1 : AdAt W1 w.heap.size h1 p1 := by rw [← hW1]; exact ad_new _ _ _
  obtain ⟨W, hW⟩ : ∃ W, W1.alloc (.cells #[.int .u32 h2, .int .i64 p2] 24) = W := ⟨_, rfl⟩
  have hb2 : Below W1.heap.size W1 W := by rw [← hW]; exact (Below.refl _ _).alloc (Nat.le_refl _) _
  have ha2 : AdAt W (w.heap.size + 1) h2 p2 := by rw [← hW, ← hs1]; exact ad_new _ _ _
  have hbw := hb1.trans (hb2.mono hb1.size)
  have HB := Lib.hid hbw
  have HA := Lib.hid (ha1.below hb2)
  have HC := Lib.hid ha2
  have HR := Lib.hid hr
  have HI := Lib.hid (show InB l from hb)
  have KA := Lib.hid (awake_calls W (hE.below hbw))
  obtain ⟨m, hm⟩ : ∃ m, mayA h1 p1 = m := ⟨_, rfl⟩
  have KM := Lib.hid (fun V => may_calls V h1 p1)
  have KN := Lib.hid (fun V => refmay_calls V h1 p1 u1.1)
  rw [hm] at KM KN
  have HM := Lib.hid hm
  have HU := Lib.hid u1
  obtain ⟨H, P, C, hfb⟩ : ∃ H P C, fbV l = (H, P, C) := ⟨_, _, _, rfl⟩
  obtain ⟨n, hn⟩ : ∃ n, l.length = n := ⟨_, rfl⟩
  have KF := Lib.hid (fun V hV => fb_calls V A n cap l hn.symm hV (by omega) hb)
  have KG := Lib.hid (fun V hV => rfb_calls V A n cap l hn.symm hV (by omega) hb)
  rw [hfb] at KF KG
  dsimp only at KF KG
  rw [hn]
  obtain ⟨x, hx⟩ : ∃ x, cmpA h1 p1 h2 p2 = x := ⟨_, rfl⟩
  have e1 := cmpA_less h1 p1 h2 p2
  have e2 := cmpA_more h1 p1 h2 p2
  have e3 := cmpA_same h1 p1 h2 p2
  have KC := Lib.hid (fun V => compare_calls V h1 p1 h2 p2)
  rw [hx] at e1 e2 e3 KC
  obtain ⟨y1, hy1⟩ : ∃ x, lessA h1 p1 h2 p2 = x := ⟨_, rfl⟩
  obtain ⟨y2, hy2⟩ : ∃ x, lessA h2 p2 h1 p1 = x := ⟨_, rfl⟩
  have KL := Lib.hid (fun V => less_calls V h1 p1 h2 p2)
  have KK := Lib.hid (fun V => less_calls V h2 p2 h1 p1)
  rw [hy1] at e1 KL
  rw [hy2] at e2 KK
  have e4 : decide (0 < x) = y2 := e2
  have e5 : (x == 0) = eqA h1 p1 h2 p2 := by rw [← e3, Bool.eq_iff_iff, beq_iff_eq, decide_eq_true_iff]
  obtain ⟨y3, hy3⟩ : ∃ b, eqA h1 p1 h2 p2 = b := ⟨_, rfl⟩
  rw [hy3] at e3 e5
  have HEE := Lib.hid (And.intro (And.intro e1 e2) (And.intro e4 (And.intro e5 hy3)))
  clear hb1 hb2 ha1 ha2 hbw hE hr hc hb hm u1 u2 hfb hn hx hy1 hy2 e1 e2 e3 e4 e5 hy3
  go_enter Tryd.func8, Tryd.ntmps8
  go_upto_region 1 with fail
  clear hW hW1 hs1
  go_upto_region 3 with (go_at_call 9; refine KA.out.mono ?_; rintro e w1 ⟨rfl, hb1⟩; have HB1 := Lib.hid (HB.out.trans (hb1.mono HB.out.size)); have HA1 := Lib.hid (HA.out.below hb1); have HC1 := Lib.hid (HC.out.below hb1); have HR1 := Lib.hid (HR.out.below (HB.out.trans (hb1.mono HB.out.size))); clear hb1)
  by_cases hn : 40 < n
  · have b1 : decide ((n : Int) > 40) = true := decide_eq_true (by omega)
    have b2 : decide (40 < n) = true := decide_eq_true hn
    have b3 : decide ((40 : Int) < n) = true := decide_eq_true (by omega)
    clear hn
    go_wp2
    go_ret
    exact ⟨rfl, HB1.out⟩
  · have b1 : decide ((n : Int) > 40) = false := decide_eq_false (by omega)
    have b2 : decide (40 < n) = false := decide_eq_false hn
    have b3 : decide ((40 : Int) < n) = false := decide_eq_false (by omega)
    clear hn
    go_upto_region 5 with fail
    clear b1 b2 b3
    obtain ⟨⟨a0, a1⟩, _⟩ := HA1.out.cells
    cases m with
    | false =>
      have KB := Lib.hid (fun V => refbytes_no V h1 p1 HU.out HM.out)
      go_upto_region 6 with (go_at_call 18; (with_reducible refine (bytes_no _ h1 p1 HM.out).mono ?_); rintro e w2 ⟨rfl, hb2⟩; have HB2 := Lib.hid (HB1.out.trans (hb2.mono HB1.out.size)); have HA2 := Lib.hid (HA1.out.below hb2); have HC2 := Lib.hid (HC1.out.below hb2); have HR2 := Lib.hid (HR1.out.below hb2); have HX2 := Lib.hid (row8_none w2 none); clear hb2)
      clear a0 a1
      go_upto_region 7 with (go_at_call 20; (with_reducible refine (KF.out _ HR2.out).mono ?_); rintro e w3 ⟨rfl, hb3⟩; have HB3 := Lib.hid (HB2.out.trans (hb3.mono HB2.out.size)); have HA3 := Lib.hid (HA2.out.below hb3); have HC3 := Lib.hid (HC2.out.below hb3); have HR3 := Lib.hid (HR2.out.below hb3); have HX3 := Lib.hid (HX2.out.below hb3); clear hb3)
      obtain ⟨W3, hW3⟩ : ∃ V, w3.alloc (.cells #[.int .u32 H, .int .i64 P] 24) = V := ⟨_, rfl⟩
      have hb3 : Below w3.heap.size w3 W3 := by rw [← hW3]; exact (Below.refl _ _).alloc (Nat.le_refl _) _
      have hp3 : AdAt W3 w3.heap.size H P := by rw [← hW3]; exact ad_new _ _ _
      rw [hW3]
      clear hW3
      obtain ⟨g8, hg8⟩ : ∃ g, w3.heap.size = g := ⟨_, rfl⟩
      rw [hg8] at hp3 ⊢
      have HB4 := Lib.hid (HB3.out.trans (hb3.mono HB3.out.size))
      have HA4 := Lib.hid (HA3.out.below hb3)
      have HC4 := Lib.hid (HC3.out.below hb3)
      have HR4 := Lib.hid (HR3.out.below hb3)
      have HX4 := Lib.hid (HX3.out.below hb3)
      have HY4 := Lib.hid hp3
      clear hb3 hp3 hg8
      go_upto_region 8 with (go_at_call 22; (with_reducible refine (KG.out _ HR4.out).mono ?_); rintro e w5 ⟨rfl, hb5⟩; have HB5 := Lib.hid (HB4.out.trans (hb5.mono HB4.out.size)); have HA5 := Lib.hid (HA4.out.below hb5); have HC5 := Lib.hid (HC4.out.below hb5); have HX5 := Lib.hid (HX4.out.below hb5); have HY5 := Lib.hid (HY4.out.below hb5); clear hb5)
      obtain ⟨W5, hW5⟩ : ∃ V, w5.alloc (.cells #[.int .u32 H, .int .i64 P] 24) = V := ⟨_, rfl⟩
      have hb5 : Below w5.heap.size w5 W5 := by rw [← hW5]; exact (Below.refl _ _).alloc (Nat.le_refl _) _
      have hp5 : AdAt W5 w5.heap.size H P := by rw [← hW5]; exact ad_new _ _ _
      rw [hW5]
      clear hW5
      obtain ⟨g10, hg10⟩ : ∃ g, w5.heap.size = g := ⟨_, rfl⟩
      rw [hg10] at hp5 ⊢
      have hS0 : SBt w w.heap.size (w.heap.size + 1) g8 g10 none [] h1 p1 h2 p2 H P W5.drew := SBt.below (V := W5) ⟨HB5.out.trans (hb5.mono HB5.out.size), HA5.out.below hb5, HC5.out.below hb5, HY5.out.below hb5, hp5, HX5.out.below hb5⟩ (drew_below W5)
      clear hb5 hp5 hg10
      refine wp_region_held_drew (S := SBt w w.heap.size (w.heap.size + 1) g8 g10 none [] h1 p1 h2 p2 H P) (by kernel_rfl) ?_ (fun hHeld => ?_)
      · exact hS0
      refine wpAnyH_take (i := 0) (v := ?_) rfl (by kernel_rfl) (by kernel_rfl) (by kernel_rfl) (fun _ _ _ h => h) (Or.inl ⟨by rfl, ?_⟩) (by assumption) ?_
      rotate_left
      · (intro w hSw; obtain ⟨_, hpw, hqw, hyw, hzw, _⟩ := hSw; obtain ⟨⟨q0, q1⟩, _⟩ := hpw.cells; obtain ⟨⟨q2, q3⟩, _⟩ := hqw.cells; obtain ⟨⟨q4, q5⟩, _⟩ := hyw.cells; obtain ⟨⟨q6, q7⟩, _⟩ := hzw.cells; go_simp; try with_reducible rfl)
      try simp only [Act.put, List.setIfInBounds_toArray, List.set_cons_zero, List.set_cons_succ, List.getElem_toArray, List.getElem_cons_succ, List.getElem_cons_zero]
      refine wpAnyH_take (i := 2) (v := ?_) rfl (by kernel_rfl) (by kernel_rfl) (by kernel_rfl) (fun _ _ _ h => h) (Or.inl ⟨by rfl, ?_⟩) (by assumption) ?_
      rotate_left
      · (intro w hSw; obtain ⟨_, hpw, hqw, hyw, hzw, _⟩ := hSw; obtain ⟨⟨q0, q1⟩, _⟩ := hpw.cells; obtain ⟨⟨q2, q3⟩, _⟩ := hqw.cells; obtain ⟨⟨q4, q5⟩, _⟩ := hyw.cells; obtain ⟨⟨q6, q7⟩, _⟩ := hzw.cells; go_simp; try with_reducible rfl)
      try simp only [Act.put, List.setIfInBounds_toArray, List.set_cons_zero, List.set_cons_succ, List.getElem_toArray, List.getElem_cons_succ, List.getElem_cons_zero]
      refine wpAnyH_ready (rs := [1]) (by kernel_rfl) (by simp) ?_
      refine AllReadyH.cons rfl (fun K hK => ?_) AllReadyH.nil
      go_simp
      go_at_call 17; (with_reducible refine (KM.out _).mono ?_); rintro e wn1 ⟨rfl, hbn⟩; have hSN := hHeld.below hbn; clear hbn
      refine hK.out _ _ ?_ (fun hHeld => ?_)
      · exact hSN
      clear hK K
      try simp only [Act.put, List.setIfInBounds_toArray, List.set_cons_zero, List.set_cons_succ, List.getElem_toArray, List.getElem_cons_succ, List.getElem_cons_zero]
      refine wpAnyH_ready (rs := [3]) (by kernel_rfl) (by simp) ?_
      refine AllReadyH.cons rfl (fun K hK => ?_) AllReadyH.nil
      go_simp
      go_at_call 23; (with_reducible refine (KN.out _).mono ?_); rintro e wn2 ⟨rfl, hbn⟩; have hSN := hHeld.below hbn; clear hbn
      refine hK.out _ _ ?_ (fun hHeld => ?_)
      · exact hSN
      clear hK K
      try simp only [Act.put, List.setIfInBounds_toArray, List.set_cons_zero, List.set_cons_succ, List.getElem_toArray, List.getElem_cons_succ, List.getElem_cons_zero]
      refine wpAnyH_take (i := 4) (v := ?_) rfl (by kernel_rfl) (by kernel_rfl) (by kernel_rfl) (fun _ _ _ h => h) (Or.inl ⟨by rfl, ?_⟩) (by assumption) ?_
      rotate_left
      · (intro w hSw; obtain ⟨_, hpw, hqw, hyw, hzw, _⟩ := hSw; obtain ⟨⟨q0, q1⟩, _⟩ := hpw.cells; obtain ⟨⟨q2, q3⟩, _⟩ := hqw.cells; obtain ⟨⟨q4, q5⟩, _⟩ := hyw.cells; obtain ⟨⟨q6, q7⟩, _⟩ := hzw.cells; go_simp; try with_reducible rfl)
      try simp only [Act.put, List.setIfInBounds_toArray, List.set_cons_zero, List.set_cons_succ, List.getElem_toArray, List.getElem_cons_succ, List.getElem_cons_zero]
      refine wpAnyH_take (i := 5) (v := ?_) rfl (by kernel_rfl) (by kernel_rfl) (by kernel_rfl) (fun _ _ _ h => h) (Or.inl ⟨by rfl, ?_⟩) (by assumption) ?_
      rotate_left
      · (intro w hSw; obtain ⟨_, hpw, hqw, hyw, hzw, _⟩ := hSw; obtain ⟨⟨q0, q1⟩, _⟩ := hpw.cells; obtain ⟨⟨q2, q3⟩, _⟩ := hqw.cells; obtain ⟨⟨q4, q5⟩, _⟩ := hyw.cells; obtain ⟨⟨q6, q7⟩, _⟩ := hzw.cells; go_simp; try with_reducible rfl)
      try simp only [Act.put, List.setIfInBounds_toArray, List.set_cons_zero, List.set_cons_succ, List.getElem_toArray, List.getElem_cons_succ, List.getElem_cons_zero]
      refine wpAnyH_take (i := 6) (v := ?_) rfl (by kernel_rfl) (by kernel_rfl) (by kernel_rfl) (fun _ _ _ h => h) (Or.inl ⟨by rfl, ?_⟩) (by assumption) ?_
      rotate_left
      · (intro w hSw; obtain ⟨_, hpw, hqw, hyw, hzw, _⟩ := hSw; obtain ⟨⟨q0, q1⟩, _⟩ := hpw.cells; obtain ⟨⟨q2, q3⟩, _⟩ := hqw.cells; obtain ⟨⟨q4, q5⟩, _⟩ := hyw.cells; obtain ⟨⟨q6, q7⟩, _⟩ := hzw.cells; go_simp; try with_reducible rfl)
      try simp only [Act.put, List.setIfInBounds_toArray, List.set_cons_zero, List.set_cons_succ, List.getElem_toArray, List.getElem_cons_succ, List.getElem_cons_zero]
      refine wpAnyH_take (i := 7) (v := ?_) rfl (by kernel_rfl) (by kernel_rfl) (by kernel_rfl) (fun _ _ _ h => h) (Or.inl ⟨by rfl, ?_⟩) (by assumption) ?_
      rotate_left
      · (intro w hSw; obtain ⟨_, hpw, hqw, hyw, hzw, _⟩ := hSw; obtain ⟨⟨q0, q1⟩, _⟩ := hpw.cells; obtain ⟨⟨q2, q3⟩, _⟩ := hqw.cells; obtain ⟨⟨q4, q5⟩, _⟩ := hyw.cells; obtain ⟨⟨q6, q7⟩, _⟩ := hzw.cells; go_simp; try with_reducible rfl)
      try simp only [Act.put, List.setIfInBounds_toArray, List.set_cons_zero, List.set_cons_succ, List.getElem_toArray, List.getElem_cons_succ, List.getElem_cons_zero]
      refine wpAnyH_ready (rs := [8]) (by kernel_rfl) (by simp) ?_
      refine AllReadyH.cons rfl (fun K hK => ?_) AllReadyH.nil
      go_simp
      go_at_call 24; (with_reducible refine (KB.out _).mono ?_); rintro e wn3 ⟨rfl, hbn⟩; have hSN := hHeld.below hbn; have HGB := Lib.hid (row8_none wn3 none); clear hbn
      refine hK.out _ _ ?_ (fun hHeld => ?_)
      · exact hSN
      clear hK K
      try simp only [Act.put, List.setIfInBounds_toArray, List.set_cons_zero, List.set_cons_succ, List.getElem_toArray, List.getElem_cons_succ, List.getElem_cons_zero]
      refine wpAnyH_ready (rs := [9]) (by kernel_rfl) (by simp) ?_
      refine AllReadyH.cons rfl (fun K hK => ?_) AllReadyH.nil
      go_simp
      go_at_call 19; refine (same_row (n := 0) rfl hHeld.row HGB.out (by decide)).mono ?_; rintro e wn4 ⟨rfl, hbn⟩; have hSN := hHeld.below hbn; clear hbn
      refine hK.out _ _ ?_ (fun hHeld => ?_)
      · exact hSN
      clear hK K
      try simp only [Act.put, List.setIfInBounds_toArray, List.set_cons_zero, List.set_cons_succ, List.getElem_toArray, List.getElem_cons_succ, List.getElem_cons_zero]
      refine wpAnyH_take (i := 10) (v := ?_) rfl (by kernel_rfl) (by kernel_rfl) (by kernel_rfl) (fun _ _ _ h => h) (Or.inl ⟨by rfl, ?_⟩) (by assumption) ?_
      rotate_left
      · (intro w hSw; obtain ⟨_, hpw, hqw, hyw, hzw, _⟩ := hSw; obtain ⟨⟨q0, q1⟩, _⟩ := hpw.cells; obtain ⟨⟨q2, q3⟩, _⟩ := hqw.cells; obtain ⟨⟨q4, q5⟩, _⟩ := hyw.cells; obtain ⟨⟨q6, q7⟩, _⟩ := hzw.cells; go_simp; try with_reducible rfl)
      try simp only [Act.put, List.setIfInBounds_toArray, List.set_cons_zero, List.set_cons_succ, List.getElem_toArray, List.getElem_cons_succ, List.getElem_cons_zero]
      refine wpAnyH_take (i := 11) (v := ?_) rfl (by kernel_rfl) (by kernel_rfl) (by kernel_rfl) (fun _ _ _ h => h) (Or.inl ⟨by rfl, ?_⟩) (by assumption) ?_
      rotate_left
      · (intro w hSw; obtain ⟨_, hpw, hqw, hyw, hzw, _⟩ := hSw; obtain ⟨⟨q0, q1⟩, _⟩ := hpw.cells; obtain ⟨⟨q2, q3⟩, _⟩ := hqw.cells; obtain ⟨⟨q4, q5⟩, _⟩ := hyw.cells; obtain ⟨⟨q6, q7⟩, _⟩ := hzw.cells; go_simp; try with_reducible rfl)
      try simp only [Act.put, List.setIfInBounds_toArray, List.set_cons_zero, List.set_cons_succ, List.getElem_toArray, List.getElem_cons_succ, List.getElem_cons_zero]
      refine wpAnyH_take (i := 12) (v := ?_) rfl (by kernel_rfl) (by kernel_rfl) (by kernel_rfl) (fun _ _ _ h => h) (Or.inl ⟨by rfl, ?_⟩) (by assumption) ?_
      rotate_left
      · (intro w hSw; obtain ⟨_, hpw, hqw, hyw, hzw, _⟩ := hSw; obtain ⟨⟨q0, q1⟩, _⟩ := hpw.cells; obtain ⟨⟨q2, q3⟩, _⟩ := hqw.cells; obtain ⟨⟨q4, q5⟩, _⟩ := hyw.cells; obtain ⟨⟨q6, q7⟩, _⟩ := hzw.cells; go_simp; try with_reducible rfl)
      try simp only [Act.put, List.setIfInBounds_toArray, List.set_cons_zero, List.set_cons_succ, List.getElem_toArray, List.getElem_cons_succ, List.getElem_cons_zero]
      refine wpAnyH_take (i := 13) (v := ?_) rfl (by kernel_rfl) (by kernel_rfl) (by kernel_rfl) (fun _ _ _ h => h) (Or.inl ⟨by rfl, ?_⟩) (by assumption) ?_
      rotate_left
      · (intro w hSw; obtain ⟨_, hpw, hqw, hyw, hzw, _⟩ := hSw; obtain ⟨⟨q0, q1⟩, _⟩ := hpw.cells; obtain ⟨⟨q2, q3⟩, _⟩ := hqw.cells; obtain ⟨⟨q4, q5⟩, _⟩ := hyw.cells; obtain ⟨⟨q6, q7⟩, _⟩ := hzw.cells; go_simp; try with_reducible rfl)
      try simp only [Act.put, List.setIfInBounds_toArray, List.set_cons_zero, List.set_cons_succ, List.getElem_toArray, List.getElem_cons_succ, List.getElem_cons_zero]
      refine wpAnyH_take (i := 14) (v := ?_) rfl (by kernel_rfl) (by kernel_rfl) (by kernel_rfl) (fun _ _ _ h => h) (Or.inl ⟨by rfl, ?_⟩) (by assumption) ?_
      rotate_left
      · (intro w hSw; obtain ⟨_, hpw, hqw, hyw, hzw, _⟩ := hSw; obtain ⟨⟨q0, q1⟩, _⟩ := hpw.cells; obtain ⟨⟨q2, q3⟩, _⟩ := hqw.cells; obtain ⟨⟨q4, q5⟩, _⟩ := hyw.cells; obtain ⟨⟨q6, q7⟩, _⟩ := hzw.cells; go_simp; try with_reducible rfl)
      try simp only [Act.put, List.setIfInBounds_toArray, List.set_cons_zero, List.set_cons_succ, List.getElem_toArray, List.getElem_cons_succ, List.getElem_cons_zero]
      refine wpAnyH_take (i := 15) (v := ?_) rfl (by kernel_rfl) (by kernel_rfl) (by kernel_rfl) (fun _ _ _ h => h) (Or.inl ⟨by rfl, ?_⟩) (by assumption) ?_
      rotate_left
      · (intro w hSw; obtain ⟨_, hpw, hqw, hyw, hzw, _⟩ := hSw; obtain ⟨⟨q0, q1⟩, _⟩ := hpw.cells; obtain ⟨⟨q2, q3⟩, _⟩ := hqw.cells; obtain ⟨⟨q4, q5⟩, _⟩ := hyw.cells; obtain ⟨⟨q6, q7⟩, _⟩ := hzw.cells; go_simp; try with_reducible rfl)
      try simp only [Act.put, List.setIfInBounds_toArray, List.set_cons_zero, List.set_cons_succ, List.getElem_toArray, List.getElem_cons_succ, List.getElem_cons_zero]
      refine wpAnyH_take (i := 16) (v := ?_) rfl (by kernel_rfl) (by kernel_rfl) (by kernel_rfl) (fun _ _ _ h => h) (Or.inl ⟨by rfl, ?_⟩) (by assumption) ?_
      rotate_left
      · (intro w hSw; obtain ⟨_, hpw, hqw, hyw, hzw, _⟩ := hSw; obtain ⟨⟨q0, q1⟩, _⟩ := hpw.cells; obtain ⟨⟨q2, q3⟩, _⟩ := hqw.cells; obtain ⟨⟨q4, q5⟩, _⟩ := hyw.cells; obtain ⟨⟨q6, q7⟩, _⟩ := hzw.cells; go_simp; try with_reducible rfl)
      try simp only [Act.put, List.setIfInBounds_toArray, List.set_cons_zero, List.set_cons_succ, List.getElem_toArray, List.getElem_cons_succ, List.getElem_cons_zero]
      refine wpAnyH_take (i := 17) (v := ?_) rfl (by kernel_rfl) (by kernel_rfl) (by kernel_rfl) (fun _ _ _ h => h) (Or.inl ⟨by rfl, ?_⟩) (by assumption) ?_
      rotate_left
      · (intro w hSw; obtain ⟨_, hpw, hqw, hyw, hzw, _⟩ := hSw; obtain ⟨⟨q0, q1⟩, _⟩ := hpw.cells; obtain ⟨⟨q2, q3⟩, _⟩ := hqw.cells; obtain ⟨⟨q4, q5⟩, _⟩ := hyw.cells; obtain ⟨⟨q6, q7⟩, _⟩ := hzw.cells; go_simp; try with_reducible rfl)
      try simp only [Act.put, List.setIfInBounds_toArray, List.set_cons_zero, List.set_cons_succ, List.getElem_toArray, List.getElem_cons_succ, List.getElem_cons_zero]
      refine wpAnyH_take (i := 18) (v := ?_) rfl (by kernel_rfl) (by kernel_rfl) (by kernel_rfl) (fun _ _ _ h => h) (Or.inl ⟨by rfl, ?_⟩) (by assumption) ?_
      rotate_left
      · (intro w hSw; obtain ⟨_, hpw, hqw, hyw, hzw, _⟩ := hSw; obtain ⟨⟨q0, q1⟩, _⟩ := hpw.cells; obtain ⟨⟨q2, q3⟩, _⟩ := hqw.cells; obtain ⟨⟨q4, q5⟩, _⟩ := hyw.cells; obtain ⟨⟨q6, q7⟩, _⟩ := hzw.cells; go_simp; try with_reducible rfl)
      try simp only [Act.put, List.setIfInBounds_toArray, List.set_cons_zero, List.set_cons_succ, List.getElem_toArray, List.getElem_cons_succ, List.getElem_cons_zero]
      refine wpAnyH_take (i := 19) (v := ?_) rfl (by kernel_rfl) (by kernel_rfl) (by kernel_rfl) (fun _ _ _ h => h) (Or.inl ⟨by rfl, ?_⟩) (by assumption) ?_
      rotate_left
      · (intro w hSw; obtain ⟨_, hpw, hqw, hyw, hzw, _⟩ := hSw; obtain ⟨⟨q0, q1⟩, _⟩ := hpw.cells; obtain ⟨⟨q2, q3⟩, _⟩ := hqw.cells; obtain ⟨⟨q4, q5⟩, _⟩ := hyw.cells; obtain ⟨⟨q6, q7⟩, _⟩ := hzw.cells; go_simp; try with_reducible rfl)
      try simp only [Act.put, List.setIfInBounds_toArray, List.set_cons_zero, List.set_cons_succ, List.getElem_toArray, List.getElem_cons_succ, List.getElem_cons_zero]
      refine wpAnyH_take (i := 20) (v := ?_) rfl (by kernel_rfl) (by kernel_rfl) (by kernel_rfl) (fun _ _ _ h => h) (Or.inl ⟨by rfl, ?_⟩) (by assumption) ?_
      rotate_left
      · (intro w hSw; obtain ⟨_, hpw, hqw, hyw, hzw, _⟩ := hSw; obtain ⟨⟨q0, q1⟩, _⟩ := hpw.cells; obtain ⟨⟨q2, q3⟩, _⟩ := hqw.cells; obtain ⟨⟨q4, q5⟩, _⟩ := hyw.cells; obtain ⟨⟨q6, q7⟩, _⟩ := hzw.cells; go_simp; try with_reducible rfl)
      try simp only [Act.put, List.setIfInBounds_toArray, List.set_cons_zero, List.set_cons_succ, List.getElem_toArray, List.getElem_cons_succ, List.getElem_cons_zero]
      refine wpAnyH_take (i := 21) (v := ?_) rfl (by kernel_rfl) (by kernel_rfl) (by kernel_rfl) (fun _ _ _ h => h) (Or.inl ⟨by rfl, ?_⟩) (by assumption) ?_
      rotate_left
      · (intro w hSw; obtain ⟨_, hpw, hqw, hyw, hzw, _⟩ := hSw; obtain ⟨⟨q0, q1⟩, _⟩ := hpw.cells; obtain ⟨⟨q2, q3⟩, _⟩ := hqw.cells; obtain ⟨⟨q4, q5⟩, _⟩ := hyw.cells; obtain ⟨⟨q6, q7⟩, _⟩ := hzw.cells; go_simp; try with_reducible rfl)
      try simp only [Act.put, List.setIfInBounds_toArray, List.set_cons_zero, List.set_cons_succ, List.getElem_toArray, List.getElem_cons_succ, List.getElem_cons_zero]
      refine wpAnyH_done (by kernel_rfl) ?_ _
      dsimp only [Exit.then]
      obtain ⟨hbw, haw, hcw, _, _, hxw⟩ := hHeld
      obtain ⟨U, hU⟩ : ∃ U, wn4 = U := ⟨_, rfl⟩
      rw [hU] at hbw haw hcw hxw ⊢
      obtain ⟨⟨a0, a1⟩, _⟩ := haw.cells
      obtain ⟨⟨c0, c1⟩, _⟩ := hcw.cells
      have HB6 := Lib.hid hbw
      have HA6 := Lib.hid haw
      have HC6 := Lib.hid hcw
      have HX6 := Lib.hid hxw
      clear hbw haw hcw hxw hU hS0
      go_upto_region 11 with (go_at_call 21; (with_reducible refine (KC.out _).mono ?_); rintro e w7 ⟨rfl, hb7⟩; have HB7 := Lib.hid (HB6.out.trans (hb7.mono HB6.out.size)); have HA7 := Lib.hid (HA6.out.below hb7); have HC7 := Lib.hid (HC6.out.below hb7); have HX7 := Lib.hid (HX6.out.below hb7); clear hb7)
      clear a0 a1 c0 c1
      obtain ⟨⟨a0, a1⟩, _⟩ := HA7.out.cells
      obtain ⟨⟨c0, c1⟩, _⟩ := HC7.out.cells
      obtain ⟨⟨e1, e2⟩, e4, e5, e6⟩ := HEE.out
      go_upto_region 13 with (first
        | (go_at_call 25; (with_reducible refine (KL.out _).mono ?_); rintro e w8 ⟨rfl, hb8⟩; have HB8 := Lib.hid (HB7.out.trans (hb8.mono HB7.out.size)); have HA8 := Lib.hid (HA7.out.below hb8); have HC8 := Lib.hid (HC7.out.below hb8); have HX8 := Lib.hid (HX7.out.below hb8); obtain ⟨⟨i0, i1⟩, _⟩ := HA8.out.cells; obtain ⟨⟨i2, i3⟩, _⟩ := HC8.out.cells; clear hb8)
        | (go_at_call 25; (with_reducible refine (KK.out _).mono ?_); rintro e w9 ⟨rfl, hb9⟩; have HB9 := Lib.hid (HB8.out.trans (hb9.mono HB8.out.size)); have HA9 := Lib.hid (HA8.out.below hb9); have HX9 := Lib.hid (HX8.out.below hb9); obtain ⟨⟨k0, k1⟩, _⟩ := HA9.out.cells; obtain ⟨⟨k2, k3⟩, _⟩ := (HC8.out.below hb9).cells; clear hb9))
      all_goals obtain ⟨⟨t0, t1⟩, _⟩ := HA9.out.cells
      all_goals go_wp2_with (go_at_call 23; (with_reducible refine (KN.out _).mono ?_); rintro e w10 ⟨rfl, hb10⟩; have HB10 := Lib.hid (HB9.out.trans (hb10.mono HB9.out.size)); clear hb10)
      all_goals go_ret
      all_goals exact ⟨rfl, HB10.out⟩
    | true =>
      have KB := Lib.hid (fun V => refbytes_yes V h1 p1 HU.out HM.out)
      go_upto_region 6 with (go_at_call 18; (with_reducible refine (bytes_yes _ h1 p1 HU.out HM.out).mono ?_); rintro e w2 ⟨g, rfl, _, hg, hb2⟩; have HB2 := Lib.hid (HB1.out.trans (hb2.mono HB1.out.size)); have HA2 := Lib.hid (HA1.out.below hb2); have HC2 := Lib.hid (HC1.out.below hb2); have HR2 := Lib.hid (HR1.out.below hb2); have HX2 := Lib.hid (row8_block hg); clear hb2 hg)
      clear a0 a1
      go_upto_region 7 with (go_at_call 20; (with_reducible refine (KF.out _ HR2.out).mono ?_); rintro e w3 ⟨rfl, hb3⟩; have HB3 := Lib.hid (HB2.out.trans (hb3.mono HB2.out.size)); have HA3 := Lib.hid (HA2.out.below hb3); have HC3 := Lib.hid (HC2.out.below hb3); have HR3 := Lib.hid (HR2.out.below hb3); have HX3 := Lib.hid (HX2.out.below hb3); clear hb3)
      obtain ⟨W3, hW3⟩ : ∃ V, w3.alloc (.cells #[.int .u32 H, .int .i64 P] 24) = V := ⟨_, rfl⟩
      have hb3 : Below w3.heap.size w3 W3 := by rw [← hW3]; exact (Below.refl _ _).alloc (Nat.le_refl _) _
      have hp3 : AdAt W3 w3.heap.size H P := by rw [← hW3]; exact ad_new _ _ _
      rw [hW3]
      clear hW3
      obtain ⟨g8, hg8⟩ : ∃ g, w3.heap.size = g := ⟨_, rfl⟩
      rw [hg8] at hp3 ⊢
      have HB4 := Lib.hid (HB3.out.trans (hb3.mono HB3.out.size))
      have HA4 := Lib.hid (HA3.out.below hb3)
      have HC4 := Lib.hid (HC3.out.below hb3)
      have HR4 := Lib.hid (HR3.out.below hb3)
      have HX4 := Lib.hid (HX3.out.below hb3)
      have HY4 := Lib.hid hp3
      clear hb3 hp3 hg8
      go_upto_region 8 with (go_at_call 22; (with_reducible refine (KG.out _ HR4.out).mono ?_); rintro e w5 ⟨rfl, hb5⟩; have HB5 := Lib.hid (HB4.out.trans (hb5.mono HB4.out.size)); have HA5 := Lib.hid (HA4.out.below hb5); have HC5 := Lib.hid (HC4.out.below hb5); have HX5 := Lib.hid (HX4.out.below hb5); have HY5 := Lib.hid (HY4.out.below hb5); clear hb5)
      obtain ⟨W5, hW5⟩ : ∃ V, w5.alloc (.cells #[.int .u32 H, .int .i64 P] 24) = V := ⟨_, rfl⟩
      have hb5 : Below w5.heap.size w5 W5 := by rw [← hW5]; exact (Below.refl _ _).alloc (Nat.le_refl _) _
      have hp5 : AdAt W5 w5.heap.size H P := by rw [← hW5]; exact ad_new _ _ _
      rw [hW5]
      clear hW5
      obtain ⟨g10, hg10⟩ : ∃ g, w5.heap.size = g := ⟨_, rfl⟩
      rw [hg10] at hp5 ⊢
      have hS0 : SBt w w.heap.size (w.heap.size + 1) g8 g10 (some ⟨g, 0, none⟩) (bytesA h1 p1) h1 p1 h2 p2 H P W5.drew := SBt.below (V := W5) ⟨HB5.out.trans (hb5.mono HB5.out.size), HA5.out.below hb5, HC5.out.below hb5, HY5.out.below hb5, hp5, HX5.out.below hb5⟩ (drew_below W5)
      clear hb5 hp5 hg10
      refine wp_region_held_drew (S := SBt w w.heap.size (w.heap.size + 1) g8 g10 (some ⟨g, 0, none⟩) (bytesA h1 p1) h1 p1 h2 p2 H P) (by kernel_rfl) ?_ (fun hHeld => ?_)
      · exact hS0
      refine wpAnyH_take (i := 0) (v := ?_) rfl (by kernel_rfl) (by kernel_rfl) (by kernel_rfl) (fun _ _ _ h => h) (Or.inl ⟨by rfl, ?_⟩) (by assumption) ?_
      rotate_left
      · (intro w hSw; obtain ⟨_, hpw, hqw, hyw, hzw, _⟩ := hSw; obtain ⟨⟨q0, q1⟩, _⟩ := hpw.cells; obtain ⟨⟨q2, q3⟩, _⟩ := hqw.cells; obtain ⟨⟨q4, q5⟩, _⟩ := hyw.cells; obtain ⟨⟨q6, q7⟩, _⟩ := hzw.cells; go_simp; try with_reducible rfl)
      try simp only [Act.put, List.setIfInBounds_toArray, List.set_cons_zero, List.set_cons_succ, List.getElem_toArray, List.getElem_cons_succ, List.getElem_cons_zero]
      refine wpAnyH_take (i := 2) (v := ?_) rfl (by kernel_rfl) (by kernel_rfl) (by kernel_rfl) (fun _ _ _ h => h) (Or.inl ⟨by rfl, ?_⟩) (by assumption) ?_
      rotate_left
      · (intro w hSw; obtain ⟨_, hpw, hqw, hyw, hzw, _⟩ := hSw; obtain ⟨⟨q0, q1⟩, _⟩ := hpw.cells; obtain ⟨⟨q2, q3⟩, _⟩ := hqw.cells; obtain ⟨⟨q4, q5⟩, _⟩ := hyw.cells; obtain ⟨⟨q6, q7⟩, _⟩ := hzw.cells; go_simp; try with_reducible rfl)
      try simp only [Act.put, List.setIfInBounds_toArray, List.set_cons_zero, List.set_cons_succ, List.getElem_toArray, List.getElem_cons_succ, List.getElem_cons_zero]
      refine wpAnyH_ready (rs := [1]) (by kernel_rfl) (by simp) ?_
      refine AllReadyH.cons rfl (fun K hK => ?_) AllReadyH.nil
      go_simp
      go_at_call 17; (with_reducible refine (KM.out _).mono ?_); rintro e wn1 ⟨rfl, hbn⟩; have hSN := hHeld.below hbn; clear hbn
      refine hK.out _ _ ?_ (fun hHeld => ?_)
      · exact hSN
      clear hK K
      try simp only [Act.put, List.setIfInBounds_toArray, List.set_cons_zero, List.set_cons_succ, List.getElem_toArray, List.getElem_cons_succ, List.getElem_cons_zero]
      refine wpAnyH_ready (rs := [3]) (by kernel_rfl) (by simp) ?_
      refine AllReadyH.cons rfl (fun K hK => ?_) AllReadyH.nil
      go_simp
      go_at_call 23; (with_reducible refine (KN.out _).mono ?_); rintro e wn2 ⟨rfl, hbn⟩; have hSN := hHeld.below hbn; clear hbn
      refine hK.out _ _ ?_ (fun hHeld => ?_)
      · exact hSN
      clear hK K
      try simp only [Act.put, List.setIfInBounds_toArray, List.set_cons_zero, List.set_cons_succ, List.getElem_toArray, List.getElem_cons_succ, List.getElem_cons_zero]
      refine wpAnyH_take (i := 4) (v := ?_) rfl (by kernel_rfl) (by kernel_rfl) (by kernel_rfl) (fun _ _ _ h => h) (Or.inl ⟨by rfl, ?_⟩) (by assumption) ?_
      rotate_left
      · (intro w hSw; obtain ⟨_, hpw, hqw, hyw, hzw, _⟩ := hSw; obtain ⟨⟨q0, q1⟩, _⟩ := hpw.cells; obtain ⟨⟨q2, q3⟩, _⟩ := hqw.cells; obtain ⟨⟨q4, q5⟩, _⟩ := hyw.cells; obtain ⟨⟨q6, q7⟩, _⟩ := hzw.cells; go_simp; try with_reducible rfl)
      try simp only [Act.put, List.setIfInBounds_toArray, List.set_cons_zero, List.set_cons_succ, List.getElem_toArray, List.getElem_cons_succ, List.getElem_cons_zero]
      refine wpAnyH_take (i := 5) (v := ?_) rfl (by kernel_rfl) (by kernel_rfl) (by kernel_rfl) (fun _ _ _ h => h) (Or.inl ⟨by rfl, ?_⟩) (by assumption) ?_
      rotate_left
      · (intro w hSw; obtain ⟨_, hpw, hqw, hyw, hzw, _⟩ := hSw; obtain ⟨⟨q0, q1⟩, _⟩ := hpw.cells; obtain ⟨⟨q2, q3⟩, _⟩ := hqw.cells; obtain ⟨⟨q4, q5⟩, _⟩ := hyw.cells; obtain ⟨⟨q6, q7⟩, _⟩ := hzw.cells; go_simp; try with_reducible rfl)
      try simp only [Act.put, List.setIfInBounds_toArray, List.set_cons_zero, List.set_cons_succ, List.getElem_toArray, List.getElem_cons_succ, List.getElem_cons_zero]
      refine wpAnyH_take (i := 6) (v := ?_) rfl (by kernel_rfl) (by kernel_rfl) (by kernel_rfl) (fun _ _ _ h => h) (Or.inl ⟨by rfl, ?_⟩) (by assumption) ?_
      rotate_left
      · (intro w hSw; obtain ⟨_, hpw, hqw, hyw, hzw, _⟩ := hSw; obtain ⟨⟨q0, q1⟩, _⟩ := hpw.cells; obtain ⟨⟨q2, q3⟩, _⟩ := hqw.cells; obtain ⟨⟨q4, q5⟩, _⟩ := hyw.cells; obtain ⟨⟨q6, q7⟩, _⟩ := hzw.cells; go_simp; try with_reducible rfl)
      try simp only [Act.put, List.setIfInBounds_toArray, List.set_cons_zero, List.set_cons_succ, List.getElem_toArray, List.getElem_cons_succ, List.getElem_cons_zero]
      refine wpAnyH_take (i := 7) (v := ?_) rfl (by kernel_rfl) (by kernel_rfl) (by kernel_rfl) (fun _ _ _ h => h) (Or.inl ⟨by rfl, ?_⟩) (by assumption) ?_
      rotate_left
      · (intro w hSw; obtain ⟨_, hpw, hqw, hyw, hzw, _⟩ := hSw; obtain ⟨⟨q0, q1⟩, _⟩ := hpw.cells; obtain ⟨⟨q2, q3⟩, _⟩ := hqw.cells; obtain ⟨⟨q4, q5⟩, _⟩ := hyw.cells; obtain ⟨⟨q6, q7⟩, _⟩ := hzw.cells; go_simp; try with_reducible rfl)
      try simp only [Act.put, List.setIfInBounds_toArray, List.set_cons_zero, List.set_cons_succ, List.getElem_toArray, List.getElem_cons_succ, List.getElem_cons_zero]
      refine wpAnyH_ready (rs := [8]) (by kernel_rfl) (by simp) ?_
      refine AllReadyH.cons rfl (fun K hK => ?_) AllReadyH.nil
      go_simp
      go_at_call 24; (with_reducible refine (KB.out _).mono ?_); rintro e wn3 ⟨gb, rfl, _, hgb, hbn⟩; have hSN := hHeld.below hbn; have HGB := Lib.hid (row8_block hgb); clear hbn hgb
      refine hK.out _ _ ?_ (fun hHeld => ?_)
      · exact hSN
      clear hK K
      try simp only [Act.put, List.setIfInBounds_toArray, List.set_cons_zero, List.set_cons_succ, List.getElem_toArray, List.getElem_cons_succ, List.getElem_cons_zero]
      refine wpAnyH_ready (rs := [9]) (by kernel_rfl) (by simp) ?_
      refine AllReadyH.cons rfl (fun K hK => ?_) AllReadyH.nil
      go_simp
      go_at_call 19; refine (same_row (n := 6) rfl hHeld.row HGB.out (by decide)).mono ?_; rintro e wn4 ⟨rfl, hbn⟩; have hSN := hHeld.below hbn; clear hbn
      refine hK.out _ _ ?_ (fun hHeld => ?_)
      · exact hSN
      clear hK K
      try simp only [Act.put, List.setIfInBounds_toArray, List.set_cons_zero, List.set_cons_succ, List.getElem_toArray, List.getElem_cons_succ, List.getElem_cons_zero]
      refine wpAnyH_take (i := 10) (v := ?_) rfl (by kernel_rfl) (by kernel_rfl) (by kernel_rfl) (fun _ _ _ h => h) (Or.inl ⟨by rfl, ?_⟩) (by assumption) ?_
      rotate_left
      · (intro w hSw; obtain ⟨_, hpw, hqw, hyw, hzw, _⟩ := hSw; obtain ⟨⟨q0, q1⟩, _⟩ := hpw.cells; obtain ⟨⟨q2, q3⟩, _⟩ := hqw.cells; obtain ⟨⟨q4, q5⟩, _⟩ := hyw.cells; obtain ⟨⟨q6, q7⟩, _⟩ := hzw.cells; go_simp; try with_reducible rfl)
      try simp only [Act.put, List.setIfInBounds_toArray, List.set_cons_zero, List.set_cons_succ, List.getElem_toArray, List.getElem_cons_succ, List.getElem_cons_zero]
      refine wpAnyH_take (i := 11) (v := ?_) rfl (by kernel_rfl) (by kernel_rfl) (by kernel_rfl) (fun _ _ _ h => h) (Or.inl ⟨by rfl, ?_⟩) (by assumption) ?_
      rotate_left
      · (intro w hSw; obtain ⟨_, hpw, hqw, hyw, hzw, _⟩ := hSw; obtain ⟨⟨q0, q1⟩, _⟩ := hpw.cells; obtain ⟨⟨q2, q3⟩, _⟩ := hqw.cells; obtain ⟨⟨q4, q5⟩, _⟩ := hyw.cells; obtain ⟨⟨q6, q7⟩, _⟩ := hzw.cells; go_simp; try with_reducible rfl)
      try simp only [Act.put, List.setIfInBounds_toArray, List.set_cons_zero, List.set_cons_succ, List.getElem_toArray, List.getElem_cons_succ, List.getElem_cons_zero]
      refine wpAnyH_take (i := 12) (v := ?_) rfl (by kernel_rfl) (by kernel_rfl) (by kernel_rfl) (fun _ _ _ h => h) (Or.inl ⟨by rfl, ?_⟩) (by assumption) ?_
      rotate_left
      · (intro w hSw; obtain ⟨_, hpw, hqw, hyw, hzw, _⟩ := hSw; obtain ⟨⟨q0, q1⟩, _⟩ := hpw.cells; obtain ⟨⟨q2, q3⟩, _⟩ := hqw.cells; obtain ⟨⟨q4, q5⟩, _⟩ := hyw.cells; obtain ⟨⟨q6, q7⟩, _⟩ := hzw.cells; go_simp; try with_reducible rfl)
      try simp only [Act.put, List.setIfInBounds_toArray, List.set_cons_zero, List.set_cons_succ, List.getElem_toArray, List.getElem_cons_succ, List.getElem_cons_zero]
      refine wpAnyH_take (i := 13) (v := ?_) rfl (by kernel_rfl) (by kernel_rfl) (by kernel_rfl) (fun _ _ _ h => h) (Or.inl ⟨by rfl, ?_⟩) (by assumption) ?_
      rotate_left
      · (intro w hSw; obtain ⟨_, hpw, hqw, hyw, hzw, _⟩ := hSw; obtain ⟨⟨q0, q1⟩, _⟩ := hpw.cells; obtain ⟨⟨q2, q3⟩, _⟩ := hqw.cells; obtain ⟨⟨q4, q5⟩, _⟩ := hyw.cells; obtain ⟨⟨q6, q7⟩, _⟩ := hzw.cells; go_simp; try with_reducible rfl)
      try simp only [Act.put, List.setIfInBounds_toArray, List.set_cons_zero, List.set_cons_succ, List.getElem_toArray, List.getElem_cons_succ, List.getElem_cons_zero]
      refine wpAnyH_take (i := 14) (v := ?_) rfl (by kernel_rfl) (by kernel_rfl) (by kernel_rfl) (fun _ _ _ h => h) (Or.inl ⟨by rfl, ?_⟩) (by assumption) ?_
      rotate_left
      · (intro w hSw; obtain ⟨_, hpw, hqw, hyw, hzw, _⟩ := hSw; obtain ⟨⟨q0, q1⟩, _⟩ := hpw.cells; obtain ⟨⟨q2, q3⟩, _⟩ := hqw.cells; obtain ⟨⟨q4, q5⟩, _⟩ := hyw.cells; obtain ⟨⟨q6, q7⟩, _⟩ := hzw.cells; go_simp; try with_reducible rfl)
      try simp only [Act.put, List.setIfInBounds_toArray, List.set_cons_zero, List.set_cons_succ, List.getElem_toArray, List.getElem_cons_succ, List.getElem_cons_zero]
      refine wpAnyH_take (i := 15) (v := ?_) rfl (by kernel_rfl) (by kernel_rfl) (by kernel_rfl) (fun _ _ _ h => h) (Or.inl ⟨by rfl, ?_⟩) (by assumption) ?_
      rotate_left
      · (intro w hSw; obtain ⟨_, hpw, hqw, hyw, hzw, _⟩ := hSw; obtain ⟨⟨q0, q1⟩, _⟩ := hpw.cells; obtain ⟨⟨q2, q3⟩, _⟩ := hqw.cells; obtain ⟨⟨q4, q5⟩, _⟩ := hyw.cells; obtain ⟨⟨q6, q7⟩, _⟩ := hzw.cells; go_simp; try with_reducible rfl)
      try simp only [Act.put, List.setIfInBounds_toArray, List.set_cons_zero, List.set_cons_succ, List.getElem_toArray, List.getElem_cons_succ, List.getElem_cons_zero]
      refine wpAnyH_take (i := 16) (v := ?_) rfl (by kernel_rfl) (by kernel_rfl) (by kernel_rfl) (fun _ _ _ h => h) (Or.inl ⟨by rfl, ?_⟩) (by assumption) ?_
      rotate_left
      · (intro w hSw; obtain ⟨_, hpw, hqw, hyw, hzw, _⟩ := hSw; obtain ⟨⟨q0, q1⟩, _⟩ := hpw.cells; obtain ⟨⟨q2, q3⟩, _⟩ := hqw.cells; obtain ⟨⟨q4, q5⟩, _⟩ := hyw.cells; obtain ⟨⟨q6, q7⟩, _⟩ := hzw.cells; go_simp; try with_reducible rfl)
      try simp only [Act.put, List.setIfInBounds_toArray, List.set_cons_zero, List.set_cons_succ, List.getElem_toArray, List.getElem_cons_succ, List.getElem_cons_zero]
      refine wpAnyH_take (i := 17) (v := ?_) rfl (by kernel_rfl) (by kernel_rfl) (by kernel_rfl) (fun _ _ _ h => h) (Or.inl ⟨by rfl, ?_⟩) (by assumption) ?_
      rotate_left
      · (intro w hSw; obtain ⟨_, hpw, hqw, hyw, hzw, _⟩ := hSw; obtain ⟨⟨q0, q1⟩, _⟩ := hpw.cells; obtain ⟨⟨q2, q3⟩, _⟩ := hqw.cells; obtain ⟨⟨q4, q5⟩, _⟩ := hyw.cells; obtain ⟨⟨q6, q7⟩, _⟩ := hzw.cells; go_simp; try with_reducible rfl)
      try simp only [Act.put, List.setIfInBounds_toArray, List.set_cons_zero, List.set_cons_succ, List.getElem_toArray, List.getElem_cons_succ, List.getElem_cons_zero]
      refine wpAnyH_take (i := 18) (v := ?_) rfl (by kernel_rfl) (by kernel_rfl) (by kernel_rfl) (fun _ _ _ h => h) (Or.inl ⟨by rfl, ?_⟩) (by assumption) ?_
      rotate_left
      · (intro w hSw; obtain ⟨_, hpw, hqw, hyw, hzw, _⟩ := hSw; obtain ⟨⟨q0, q1⟩, _⟩ := hpw.cells; obtain ⟨⟨q2, q3⟩, _⟩ := hqw.cells; obtain ⟨⟨q4, q5⟩, _⟩ := hyw.cells; obtain ⟨⟨q6, q7⟩, _⟩ := hzw.cells; go_simp; try with_reducible rfl)
      try simp only [Act.put, List.setIfInBounds_toArray, List.set_cons_zero, List.set_cons_succ, List.getElem_toArray, List.getElem_cons_succ, List.getElem_cons_zero]
      refine wpAnyH_take (i := 19) (v := ?_) rfl (by kernel_rfl) (by kernel_rfl) (by kernel_rfl) (fun _ _ _ h => h) (Or.inl ⟨by rfl, ?_⟩) (by assumption) ?_
      rotate_left
      · (intro w hSw; obtain ⟨_, hpw, hqw, hyw, hzw, _⟩ := hSw; obtain ⟨⟨q0, q1⟩, _⟩ := hpw.cells; obtain ⟨⟨q2, q3⟩, _⟩ := hqw.cells; obtain ⟨⟨q4, q5⟩, _⟩ := hyw.cells; obtain ⟨⟨q6, q7⟩, _⟩ := hzw.cells; go_simp; try with_reducible rfl)
      try simp only [Act.put, List.setIfInBounds_toArray, List.set_cons_zero, List.set_cons_succ, List.getElem_toArray, List.getElem_cons_succ, List.getElem_cons_zero]
      refine wpAnyH_take (i := 20) (v := ?_) rfl (by kernel_rfl) (by kernel_rfl) (by kernel_rfl) (fun _ _ _ h => h) (Or.inl ⟨by rfl, ?_⟩) (by assumption) ?_
      rotate_left
      · (intro w hSw; obtain ⟨_, hpw, hqw, hyw, hzw, _⟩ := hSw; obtain ⟨⟨q0, q1⟩, _⟩ := hpw.cells; obtain ⟨⟨q2, q3⟩, _⟩ := hqw.cells; obtain ⟨⟨q4, q5⟩, _⟩ := hyw.cells; obtain ⟨⟨q6, q7⟩, _⟩ := hzw.cells; go_simp; try with_reducible rfl)
      try simp only [Act.put, List.setIfInBounds_toArray, List.set_cons_zero, List.set_cons_succ, List.getElem_toArray, List.getElem_cons_succ, List.getElem_cons_zero]
      refine wpAnyH_take (i := 21) (v := ?_) rfl (by kernel_rfl) (by kernel_rfl) (by kernel_rfl) (fun _ _ _ h => h) (Or.inl ⟨by rfl, ?_⟩) (by assumption) ?_
      rotate_left
      · (intro w hSw; obtain ⟨_, hpw, hqw, hyw, hzw, _⟩ := hSw; obtain ⟨⟨q0, q1⟩, _⟩ := hpw.cells; obtain ⟨⟨q2, q3⟩, _⟩ := hqw.cells; obtain ⟨⟨q4, q5⟩, _⟩ := hyw.cells; obtain ⟨⟨q6, q7⟩, _⟩ := hzw.cells; go_simp; try with_reducible rfl)
      try simp only [Act.put, List.setIfInBounds_toArray, List.set_cons_zero, List.set_cons_succ, List.getElem_toArray, List.getElem_cons_succ, List.getElem_cons_zero]
      refine wpAnyH_done (by kernel_rfl) ?_ _
      dsimp only [Exit.then]
      obtain ⟨hbw, haw, hcw, _, _, hxw⟩ := hHeld
      obtain ⟨U, hU⟩ : ∃ U, wn4 = U := ⟨_, rfl⟩
      rw [hU] at hbw haw hcw hxw ⊢
      obtain ⟨⟨a0, a1⟩, _⟩ := haw.cells
      obtain ⟨⟨c0, c1⟩, _⟩ := hcw.cells
      have HB6 := Lib.hid hbw
      have HA6 := Lib.hid haw
      have HC6 := Lib.hid hcw
      have HX6 := Lib.hid hxw
      clear hbw haw hcw hxw hU hS0
      go_upto_region 11 with (go_at_call 21; (with_reducible refine (KC.out _).mono ?_); rintro e w7 ⟨rfl, hb7⟩; have HB7 := Lib.hid (HB6.out.trans (hb7.mono HB6.out.size)); have HA7 := Lib.hid (HA6.out.below hb7); have HC7 := Lib.hid (HC6.out.below hb7); have HX7 := Lib.hid (HX6.out.below hb7); clear hb7)
      clear a0 a1 c0 c1
      obtain ⟨⟨a0, a1⟩, _⟩ := HA7.out.cells
      obtain ⟨⟨c0, c1⟩, _⟩ := HC7.out.cells
      obtain ⟨⟨e1, e2⟩, e4, e5, e6⟩ := HEE.out
      go_upto_region 13 with (first
        | (go_at_call 25; (with_reducible refine (KL.out _).mono ?_); rintro e w8 ⟨rfl, hb8⟩; have HB8 := Lib.hid (HB7.out.trans (hb8.mono HB7.out.size)); have HA8 := Lib.hid (HA7.out.below hb8); have HC8 := Lib.hid (HC7.out.below hb8); have HX8 := Lib.hid (HX7.out.below hb8); obtain ⟨⟨i0, i1⟩, _⟩ := HA8.out.cells; obtain ⟨⟨i2, i3⟩, _⟩ := HC8.out.cells; clear hb8)
        | (go_at_call 25; (with_reducible refine (KK.out _).mono ?_); rintro e w9 ⟨rfl, hb9⟩; have HB9 := Lib.hid (HB8.out.trans (hb9.mono HB8.out.size)); have HA9 := Lib.hid (HA8.out.below hb9); have HX9 := Lib.hid (HX8.out.below hb9); obtain ⟨⟨k0, k1⟩, _⟩ := HA9.out.cells; obtain ⟨⟨k2, k3⟩, _⟩ := (HC8.out.below hb9).cells; clear hb9))
      all_goals obtain ⟨⟨t0, t1⟩, _⟩ := HA9.out.cells
      all_goals have KX : Hid (∀ V, Row8 V (some ⟨g, 0, none⟩) (bytesA h1 p1) → Calls Tryd.prog 20 #[.slice (some ⟨g, 0, none⟩) 6 6] V fun e w' => e = .returned (.tuple #[.agg #[.int .u32 h1, .int .i64 p1], .int .i64 0]) ∧ Below V.heap.size V w') := Lib.hid (fun V hV => by
        have := fb_calls V (some ⟨g, 0, none⟩) 6 6 (bytesA h1 p1) rfl hV (Nat.le_refl _) (bytesA_in HU.out HM.out)
        rwa [fbV_bytes HU.out HM.out] at this)
      all_goals go_upto_region 15 with (go_at_call 23; (with_reducible refine (KN.out _).mono ?_); rintro e w10 ⟨rfl, hb10⟩; have HB10 := Lib.hid (HB9.out.trans (hb10.mono HB9.out.size)); have HA10 := Lib.hid (HA9.out.below hb10); have HX10 := Lib.hid (HX9.out.below hb10); clear hb10)
      all_goals clear a0 a1 c0 c1 t0 t1
      all_goals go_upto_region 16 with (go_at_call 20; (with_reducible refine (KX.out _ HX10.out).mono ?_); rintro e w11 ⟨rfl, hb11⟩; have HB11 := Lib.hid (HB10.out.trans (hb11.mono HB10.out.size)); have HA11 := Lib.hid (HA10.out.below hb11); clear hb11)
      all_goals
        (obtain ⟨W12, hW12⟩ : ∃ V, w11.alloc (.cells #[.int .u32 h1, .int .i64 p1] 24) = V := ⟨_, rfl⟩
         have hb12 : Below w11.heap.size w11 W12 := by rw [← hW12]; exact (Below.refl _ _).alloc (Nat.le_refl _) _
         have hp12 : AdAt W12 w11.heap.size h1 p1 := by rw [← hW12]; exact ad_new _ _ _
         have hb13 : Below w.heap.size w W12 := HB11.out.trans (hb12.mono HB11.out.size)
         rw [hW12]
         obtain ⟨⟨t0, t1⟩, _⟩ := (HA11.out.below hb12).cells
         obtain ⟨⟨t2, t3⟩, _⟩ := hp12.cells
         have HB12 := Lib.hid hb13
         clear hW12 hb12 hp12 hb13)
      all_goals go_wp2
      all_goals go_ret
      all_goals exact ⟨rfl, HB12.out⟩
end Go.Proofs.YtjbhcaifmgbpgaaDoor.Ad
