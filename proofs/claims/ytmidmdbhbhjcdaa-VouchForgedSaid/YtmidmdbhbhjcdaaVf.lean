/-
  VouchForged: a voucher with other numbers and the same tag, and one with another tag, are refused. No condition.
-/
import Derived.Test.YtmidmdbhbhjcdaaVo
namespace Go.Proofs.Ytmidmdbhbhjcdaa.By
open Go.RowKit Go.Shelf Go.Proofs.Ytmidmdbhbhjcdaa.Sp Go.Proofs.Ytmidmdbhbhjcdaa.Nt Go.Proofs.Ytmidmdbhbhjcdaa.H Go.Proofs.Ytmidmdbhbhjcdaa.Uv Go.Proofs.Ytmidmdbhbhjcdaa.Fr Go.Proofs.YtmidmdbhbhjcdaaW.PrintWords Go.Proofs.YtmidmdbhbhjcdaaW.PrintLast Go.Proofs.YtmidmdbhbhjcdaaW.PrintMore
set_option linter.unusedVariables false
set_option linter.unusedSimpArgs false
/-! ### plain -/
theorem putI_small {j : Int} (h0 : 0 ≤ j) (h1 : j < 128) : putI j = [j] := by
  rw [putI_enc j 0 h0 (by omega) (by have h := pws.2.1; show j < pw 1; omega)]
  simp [enc]
theorem vouch_one (r p u : Int) {j : Int} (h0 : 0 ≤ j) (h1 : j < 128) : vouchI r p u j = frameI (textL [r, p, u]) ++ [j] := by unfold vouchI; rw [putI_small h0 h1]
/-- What the first Check says. -/
theorem check_other {wr wp wu r p u : Int} (hw : mayF wr wp wu = true) (h : mayF r p u = true) : checkV [(wr, textL [wr, wp, wu])] (vouchI r p u 1) wr wp 0 = if r ≠ wr ∨ p ≠ wp then (0, 7) else if u ≠ wu then (0, 12) else (u, 0) := by
  rw [checkV_good (readV_good (vouch_good h (by omega) (by omega)))]
  have hm := (mayF_iff r p u).1 h
  by_cases h1 : r ≠ wr ∨ p ≠ wp
  · rw [if_pos h1, if_pos h1]
  · rw [if_neg h1, if_neg h1]
    have e1 : r = wr := by omega
    have e2 : p = wp := by omega
    subst e1 e2
    by_cases h2 : u = wu
    · subst h2
      have hc : checkF [(r, textL [r, p, u])] r (textL [r, p, u]) 1 = 0 := by unfold checkF; simp
      rw [hc, if_neg (by simp), if_neg (show ¬ u ≤ 0 by omega), if_neg (show ¬ u ≠ u by simp)]
    · have hc : checkF [(r, textL [r, p, wu])] r (textL [r, p, u]) 1 = 12 := by
        unfold checkF
        rw [if_neg (by simp)]
        rw [if_neg]
        intro e
        simp at e
        exact h2 (textL_inj hw h e).2.2.symm
      rw [hc, if_pos (by decide), if_pos h2]
theorem check_forged {r p u j : Int} (h : mayF r p u = true) (h0 : 2 ≤ j) (h1 : j < 128) : checkV [(r, textL [r, p, u])] (vouchI r p u j) r p 0 = (0, 12) := by
  rw [checkV_good (readV_good (vouch_good h (by omega) (by omega)))]
  have hc : checkF [(r, textL [r, p, u])] r (textL [r, p, u]) j = 12 := by
    unfold checkF
    rw [if_pos]
    right
    simp
    omega
  rw [if_neg (by simp), hc, if_pos (by decide)]
/-! ### a cell of one's own row is written -/
theorem add0 (g j : Nat) : (⟨g, 0, none⟩ : Addr).add j = ⟨g, j, none⟩ := by rw [Addr.add_lit, Nat.zero_add]
theorem C_last {w : World} {base g n c : Nat} {pre : List Int} {x y : Int} (h : (Kd.int .u8).R 5 w base (fun _ => True) (.slice (some ⟨g, 0, none⟩) n c) (pre ++ [x])) : (Kd.int .u8).C (w.setCell ⟨g, pre.length, none⟩ (.int .u8 y)) (some ⟨g, 0, none⟩) n (pre ++ [y]) ∧ w.cell? ⟨g, pre.length, none⟩ = some (.int .u8 x) ∧ w.frozen? ⟨g, pre.length, none⟩ = false ∧ base ≤ g := by
  obtain ⟨hC, hn, hc⟩ := R_C h
  have hC1 := hC.1
  have hlen : n = pre.length + 1 := by rw [hn]; simp
  have hcell : ∀ j (hj : j < (pre ++ [x]).length), w.cell? ⟨g, j, none⟩ = some (.int .u8 (pre ++ [x])[j]) := fun j hj => by
    obtain ⟨ad, e, hx⟩ := cell_of_C hC j hj hn
    injection e with e
    subst e
    rw [← hx, add0]
  have hl : w.cell? ⟨g, pre.length, none⟩ = some (.int .u8 x) := by
    rw [hcell pre.length (by simp)]
    simp
  obtain ⟨inner, ho⟩ := Kd.R_own h
  have hfz : w.frozen? ⟨g, pre.length, none⟩ = false ∧ base ≤ g := by
    rcases ho.2 with ⟨e, _⟩ | ⟨g', cap, cur, e, hb, hg, _⟩
    · cases e
    · cases e
      exact ⟨frozen_cellsN hg _, hb⟩
  refine ⟨?_, hl, hfz.1, hfz.2⟩
  refine Kd.C_of_reads (d := (0 : Int)) (h1 := fun _ => rfl) ⟨by rw [hlen]; simp, ?_, fun _ => ⟨_, rfl, fun j hj => ?_⟩⟩
  · have := hC.2.1
    omega
  · by_cases hj2 : j = pre.length
    · subst hj2
      rw [add0, World.cell?_setCell_same' _ _ _ (by rw [hl]; rfl)]
      simp
    · rw [add0]
      have hne : (⟨g, pre.length, none⟩ : Addr) ≠ ⟨g, j, none⟩ := fun e => hj2 (congrArg Addr.off e).symm
      have h5 : (w.setCell ⟨g, pre.length, none⟩ (.int .u8 y)).cell? ⟨g, j, none⟩ = w.cell? ⟨g, j, none⟩ := by apply World.cell?_setCell_other; exact hne
      rw [h5, hcell j (by simp; omega)]
      have hj3 : j < pre.length := by omega
      rw [List.getD_eq_getElem?_getD, List.getElem?_append_left hj3]
      simp [hj3]
set_option maxRecDepth 100000 in
set_option maxHeartbeats 4000000 in
theorem forged_calls (w : World) (wr wp wu a0 a1 a2 tg : Int) (hwr : -9223372036854775808 ≤ wr ∧ wr ≤ 9223372036854775807) (h0 : 0 ≤ a0 ∧ a0 ≤ 255) (h1 : 0 ≤ a1 ∧ a1 ≤ 255) (h2 : 0 ≤ a2 ∧ a2 ≤ 255) (ht : 0 ≤ tg ∧ tg ≤ 255) :
    Calls Try.prog 4 #[.agg #[.int .i64 wr, .int .i64 wp, .int .i64 wu], .agg #[.int .u8 a0, .int .u8 a1, .int .u8 a2], .int .u8 tg] w fun e w' => e = .returned (.bool true) ∧ Below w.heap.size w w' := by
  have q25 : ∀ (w : World) (a : Addr), (binOp .eql 27 (.pointer (some a)) (.pointer none)).run Try.prog w = .ok (.bool false) w := fun w a => by kernel_rfl
  have q26 : ∀ (w : World) (a : Addr), (binOp .neq 27 (.pointer (some a)) (.pointer none)).run Try.prog w = .ok (.bool true) w := fun w a => by kernel_rfl
  have HA := Lib.hid (fun W => awake_calls W)
  obtain ⟨W, hW⟩ : ∃ W, (w.alloc (.cells #[.int .i64 wr, .int .i64 wp, .int .i64 wu] 24)).alloc (.cells #[.int .u8 a0, .int .u8 a1, .int .u8 a2] 45) = W := ⟨_, rfl⟩
  have hbW : Below w.heap.size w W := by rw [← hW]; exact ((Below.refl _ w).alloc (Nat.le_refl _) _).alloc (by simp) _
  have hsW : W.heap.size = w.heap.size + 2 := by rw [← hW]; simp
  have e1 : W.heap[w.heap.size]? = some (.cells #[.int .i64 wr, .int .i64 wp, .int .i64 wu] 24 (0, 0)) := by
    rw [← hW]; exact (((Below.refl (w.heap.size + 1) (w.alloc _)).alloc (by simp) _).block w.heap.size (by omega)).trans (new_cellsN w _ _)
  have e2 : W.heap[w.heap.size + 1]? = some (.cells #[.int .u8 a0, .int .u8 a1, .int .u8 a2] 45 (0, 0)) := by
    rw [← hW]; have h := new_cellsN (w.alloc (.cells #[.int .i64 wr, .int .i64 wp, .int .i64 wu] 24)) 45 #[.int .u8 a0, .int .u8 a1, .int .u8 a2]; rw [World.size_alloc] at h; exact h
  have HE1 := Lib.hid e1
  have HE2 := Lib.hid e2
  have HB := Lib.hid hbW
  have HSW := Lib.hid hsW
  clear e1 e2 hbW hsW
  go_enter Try.func4, Try.ntmps4
  go_upto_region 3 with (go_at_call 7; refine (HA.out _).mono ?_; rintro e w1 ⟨rfl, hb1⟩; have HB1 := Lib.hid hb1; clear hb1)
  have HBW1 := Lib.hid (HB.out.trans (HB1.out.mono HB.out.size))
  clear hW
  go_upto_region 4 with (go_at_call 8; refine (one_new _).mono ?_; rintro e w2 ⟨g, rfl, hn, hb2⟩; have HN := Lib.hid hn; have HB2 := Lib.hid hb2; clear hn hb2)
  have HBOX := Lib.hid (show ∀ V : World, Below w1.heap.size w1 V → (V.cell? ⟨w.heap.size, 0, none⟩ = some (.int .i64 wr) ∧ V.cell? ⟨w.heap.size, 1, none⟩ = some (.int .i64 wp) ∧ V.cell? ⟨w.heap.size, 2, none⟩ = some (.int .i64 wu)) ∧ V.cell? ⟨w.heap.size + 1, 0, none⟩ = some (.int .u8 a0) ∧ V.cell? ⟨w.heap.size + 1, 1, none⟩ = some (.int .u8 a1) ∧ V.cell? ⟨w.heap.size + 1, 2, none⟩ = some (.int .u8 a2) from fun V hV => by
    have h1 := HSW.out
    have h2 := HB1.out.size
    have x1 := (hV.block _ (by omega)).trans ((HB1.out.block _ (by omega)).trans HE1.out)
    have x2 := (hV.block _ (by omega)).trans ((HB1.out.block _ (by omega)).trans HE2.out)
    exact ⟨⟨cell_cellsN x1 0 (by simp), cell_cellsN x1 1 (by simp), cell_cellsN x1 2 (by simp)⟩, cell_cellsN x2 0 (by simp), cell_cellsN x2 1 (by simp), cell_cellsN x2 2 (by simp)⟩)
  obtain ⟨⟨d0, d1, d2⟩, _⟩ := HBOX.out w2 HB2.out
  by_cases hm : mayF wr wp wu = true
  · have K3 := make_calls w2 w1.heap.size g [] _ wr wp wu HN.out HB2.out.size (by simp)
    rw [make_first hm] at K3
    dsimp only at K3
    have K3 := Lib.hid K3
    have HM := Lib.hid hm
    have hmm := (mayF_iff wr wp wu).1 hm
    obtain ⟨m1, m2, m3, m4, _, m6, m7⟩ := hmm
    obtain ⟨nx, hnx⟩ : ∃ n, (vouchI wr wp wu 1).length = n := ⟨_, rfl⟩
    have HNX := Lib.hid hnx
    clear hm hnx
    go_upto_region 5 with (go_at_call 17; with_reducible refine K3.out.mono ?_; rintro e w3 ⟨v3, s3, rfl, hR3, hs3, h3, hb3, hk3⟩; obtain ⟨A3, c3, hv3, hc3, hC3⟩ := Kd.R_reads hR3; rw [HNX.out] at hv3 hC3; subst hv3; have HC3 := Lib.hid hC3; have H3 := Lib.hid (h3.sub (av' := fun _ => False) (fun k hk => hk.elim)); have HB3 := Lib.hid (HB2.out.trans hb3); clear hR3 h3 hb3 hk3 hs3 hc3 hC3)
    obtain ⟨⟨d0, d1, d2⟩, f0, f1, f2⟩ := HBOX.out w3 HB3.out
    by_cases hbig : 1048576 < wr ∨ 1048576 < wp ∨ 1048576 < wu
    · by_cases g0 : 1048576 < wr
      · have b0 : decide (1048576 < wr) = true := decide_eq_true g0
        clear hbig
        go_wp2
        go_ret
        exact ⟨rfl, HBW1.out.trans (HB3.out.mono HBW1.out.size)⟩
      · have b0 : decide (1048576 < wr) = false := decide_eq_false g0
        by_cases g1 : 1048576 < wp
        · have b1 : decide (1048576 < wp) = true := decide_eq_true g1
          clear hbig
          go_wp2
          go_ret
          exact ⟨rfl, HBW1.out.trans (HB3.out.mono HBW1.out.size)⟩
        · have b1 : decide (1048576 < wp) = false := decide_eq_false g1
          have b2 : decide (1048576 < wu) = true := decide_eq_true (by omega)
          clear hbig
          go_wp2
          go_ret
          exact ⟨rfl, HBW1.out.trans (HB3.out.mono HBW1.out.size)⟩
    · have b0 : decide (1048576 < wr) = false := decide_eq_false (by omega)
      have b1 : decide (1048576 < wp) = false := decide_eq_false (by omega)
      have b2 : decide (1048576 < wu) = false := decide_eq_false (by omega)
      have x0 : IntKind.i64.wrap a0 = a0 := i64_of (by omega)
      have x1 : IntKind.i64.wrap a1 = a1 := i64_of (by omega)
      have x2 : IntKind.i64.wrap a2 = a2 := i64_of (by omega)
      obtain ⟨r, hr⟩ : ∃ r, wr + a0 = r := ⟨_, rfl⟩
      obtain ⟨p, hp⟩ : ∃ p, wp + a1 = p := ⟨_, rfl⟩
      obtain ⟨u, hu⟩ : ∃ u, wu + a2 = u := ⟨_, rfl⟩
      have y0 : IntKind.i64.wrap (wr + a0) = r := by rw [hr]; exact i64_of (by omega)
      have y1 : IntKind.i64.wrap (wp + a1) = p := by rw [hp]; exact i64_of (by omega)
      have y2 : IntKind.i64.wrap (wu + a2) = u := by rw [hu]; exact i64_of (by omega)
      have HB01 := Lib.hid (show wu ≤ 1048576 by omega)
      clear hr hp hu hbig
      go_upto_region 10 with fail
      clear d0 d1 d2 f0 f1 f2 x0 x1 x2 y0 y1 y2 b0 b1 b2
      by_cases hf : mayF r p u = true
      · have HF := Lib.hid hf
        go_upto_region 11 with (go_at_call 8; refine (one_new _).mono ?_; rintro e w4 ⟨g2, rfl, hn4, hb4⟩; have HN4 := Lib.hid hn4; have HB34 := Lib.hid hb4; have HB4 := Lib.hid (HB3.out.trans (hb4.mono HB3.out.size)); clear hn4 hb4)
        have K5 := make_calls w4 w3.heap.size g2 [] _ r p u HN4.out HB34.out.size (by simp)
        rw [make_first hf] at K5
        dsimp only at K5
        have K5 := Lib.hid K5
        obtain ⟨ny, hny⟩ : ∃ n, (vouchI r p u 1).length = n := ⟨_, rfl⟩
        have hnyl : ny ≤ 50 := by rw [← hny]; exact vouch_len r p u 1
        have HNY := Lib.hid hny
        clear hf hny
        go_upto_region 14 with (go_at_call 17; with_reducible refine K5.out.mono ?_; rintro e w5 ⟨v5, s5, rfl, hR5, hs5, h5, hb5, hk5⟩; obtain ⟨A5, c5, hv5, hc5, hC5⟩ := Kd.R_reads hR5; rw [HNY.out] at hv5 hC5 hc5; subst hv5; have HC5 := Lib.hid hC5; have HB35 := Lib.hid (HB34.out.trans hb5); have HB5 := Lib.hid (HB4.out.trans (hb5.mono HB3.out.size)); clear hR5 h5 hb5 hk5 hs5 hC5)
        have H5 := Lib.hid (H3.out.step' HB35.out)
        have KC := vcheck_calls w5 w1.heap.size g [(wr, textL [wr, wp, wu])] _ A5 ny c5 (vouchI r p u 1) wr wp 0 H5.out (by simp) HNY.out.symm HC5.out hc5 (vouch_bytes HF.out (by omega)) (by omega)
        rw [check_other HM.out HF.out] at KC
        obtain ⟨⟨d0, d1, d2⟩, _⟩ := HBOX.out w5 HB5.out
        by_cases k1 : r = wr
        · by_cases k2 : p = wp
          · subst k1 k2
            have z1 : (r != r) = false := by simp
            have z2 : (p != p) = false := by simp
            by_cases k3 : u = wu
            · subst k3
              rw [if_neg (by simp), if_neg (by simp)] at KC
              dsimp only at KC
              have z3 : (u != u) = false := by simp
              have KC := Lib.hid KC
              obtain ⟨pre, hpre⟩ : ∃ l, frameI (textL [r, p, u]) = l := ⟨_, rfl⟩
              obtain ⟨np, hnp⟩ : ∃ m, pre.length = m := ⟨_, rfl⟩
              have hv1 : vouchI r p u 1 = pre ++ [1] := by rw [← hpre]; exact vouch_one r p u (by omega) (by omega)
              have hnx : nx = np + 1 := by rw [← HNX.out, hv1, List.length_append, hnp]; rfl
              have hnxl : nx ≤ 60 := by have := vouch_len r p u 1; rw [HNX.out] at this; omega
              obtain ⟨tm, htm⟩ : ∃ t, Int.tmod tg 100 = t := ⟨_, rfl⟩
              have htm2 : 0 ≤ tm ∧ tm < 100 := by rw [← htm, Int.tmod_eq_emod_of_nonneg ht.1]; omega
              obtain ⟨j, hj⟩ : ∃ j, 2 + tm = j := ⟨_, rfl⟩
              have y3 : IntKind.u8.wrap (2 + tm) = j := by rw [hj]; exact IntWalk.u8_in _ (by omega)
              have y4 : IntKind.i64.wrap ((nx : Int) - 1) = np := by rw [hnx]; exact (i64_of (by push_cast; omega)).trans (by push_cast; omega)
              have HJ := Lib.hid (show 2 ≤ j ∧ j < 128 by omega)
              have HPRE := Lib.hid hpre
              have HNP := Lib.hid hnp
              have HV1 := Lib.hid hv1
              have HNXP := Lib.hid hnx
              have hnx2 : np < nx := by omega
              have hnxi : (np : Int) < (nx : Int) := by omega
              clear hpre hnp hv1 hnx htm2 hj ht
              go_upto_region 15 with (go_at_call 15; with_reducible refine KC.out.mono ?_; rintro e w6 ⟨rfl, hb6⟩; have HB56 := Lib.hid hb6; have HB6 := Lib.hid (HB5.out.trans (hb6.mono HB5.out.size)); clear hb6)
              obtain ⟨⟨d0, d1, d2⟩, _⟩ := HBOX.out w6 HB6.out
              have hal : Below w6.heap.size w6 (w6.alloc (.cells #[] 5)) := (Below.refl _ _).alloc (Nat.le_refl _) _
              have HAL := Lib.hid hal
              have HRe := Lib.hid (show (Kd.int .u8).R 5 (w6.alloc (.cells #[] 5)) w6.heap.size (fun _ => True) (.slice (some ⟨w6.heap.size, 0, none⟩) 0 0) [] from R_empty w6 w6.heap.size (fun _ => True) (Nat.le_refl _) trivial)
              have HC3' := Lib.hid (Kd.C_below HC3.out (HB35.out.trans ((HB56.out.trans (hal.mono HB56.out.size)).mono HB35.out.size)))
              clear hal
              go_upto_region 20 with ((with_reducible refine gate_builtin (b := .append) (xs := #[.tmp 125, .tmp 126]) rfl ?_); at_builtin; refine append_apd (w0 := w6) w6.heap.size rfl (.tmp 125) (.tmp 126) rfl (.slice (some ⟨w6.heap.size, 0, none⟩) 0 0) [] (vouchI r p u 1) A3 nx c3 rfl rfl (.inl HRe.out) HC3'.out (by omega) HAL.out HAL.out.size (by simp; omega) ?_; intro v7 w7 ho7 hb7; rw [List.nil_append, HV1.out] at ho7; obtain ⟨A7, c7, hv7, hc7, _⟩ := Kd.R_reads ho7; rw [← HV1.out, HNX.out] at hv7; subst hv7; have HO7 := Lib.hid ho7; have HB7 := Lib.hid hb7; clear ho7 hb7)
              obtain ⟨g7, hA7⟩ : ∃ g7, A7 = some ⟨g7, 0, none⟩ := by
                obtain ⟨inner, ho⟩ := Kd.R_own HO7.out
                rcases ho.2 with ⟨e, _⟩ | ⟨g', cap, cur, e, _⟩
                · injection e with e1 e2 e3
                  omega
                · injection e with e1 e2 e3
                  exact ⟨g', e1⟩
              subst hA7
              have hlast := C_last (y := j) HO7.out
              rw [HNP.out] at hlast
              obtain ⟨hC8, l7, f7, hg7⟩ := hlast
              have HC8 := Lib.hid hC8
              have HB8 := Lib.hid (show Below w6.heap.size w6 (w7.setCell ⟨g7, np, none⟩ (.int .u8 j)) from HB7.out.setCell (p := ⟨g7, np, none⟩) hg7 _)
              have hvj : vouchI r p u j = pre ++ [j] := by rw [← HPRE.out]; exact vouch_one r p u (by have := HJ.out; omega) HJ.out.2
              have hlv : nx = (vouchI r p u j).length := by rw [hvj, HNXP.out, List.length_append, HNP.out]; rfl
              have hcv : nx ≤ c7 := by have h := HV1.out; rw [← h, HNX.out] at hc7; exact hc7
              have KD := vcheck_calls (w7.setCell ⟨g7, np, none⟩ (.int .u8 j)) w1.heap.size g [(r, textL [r, p, u])] _ (some ⟨g7, 0, none⟩) nx c7 (vouchI r p u j) r p 0 (H5.out.step' (HB56.out.trans (HB8.out.mono HB56.out.size))) (by simp) hlv (by rw [hvj]; exact HC8.out) hcv (vouch_bytes HF.out (by have := HJ.out; omega)) (by omega)
              rw [check_forged HF.out HJ.out.1 HJ.out.2] at KD
              dsimp only at KD
              have KD := Lib.hid KD
              have HB18 := Lib.hid (HB6.out.trans (HB8.out.mono HB6.out.size))
              clear hC8 hg7 hvj KC hc7 hlv hcv
              go_upto_region 21 with fail
              obtain ⟨⟨d0, d1, d2⟩, _⟩ := HBOX.out _ HB18.out
              go_wp2_with (go_at_call 15; with_reducible refine KD.out.mono ?_; rintro e w9 ⟨rfl, hb9⟩; have HB9 := Lib.hid (HB18.out.trans (hb9.mono HB18.out.size)); clear hb9)
              go_ret
              exact ⟨rfl, HBW1.out.trans (HB9.out.mono HBW1.out.size)⟩
            · rw [if_neg (by simp), if_pos k3] at KC
              dsimp only at KC
              have z3 : (u != wu) = true := by simpa using k3
              have KC := Lib.hid KC
              clear k3
              go_upto_region 15 with (go_at_call 15; with_reducible refine KC.out.mono ?_; rintro e w6 ⟨rfl, hb6⟩; have HB6 := Lib.hid (HB5.out.trans (hb6.mono HB5.out.size)); clear hb6)
              obtain ⟨⟨d0, d1, d2⟩, _⟩ := HBOX.out w6 HB6.out
              go_wp2
              go_ret
              exact ⟨rfl, HBW1.out.trans (HB6.out.mono HBW1.out.size)⟩
          · rw [if_pos (.inr k2)] at KC
            dsimp only at KC
            subst k1
            have z1 : (r != r) = false := by simp
            have z2 : (p != wp) = true := by simpa using k2
            have KC := Lib.hid KC
            clear k2
            go_upto_region 15 with (go_at_call 15; with_reducible refine KC.out.mono ?_; rintro e w6 ⟨rfl, hb6⟩; have HB6 := Lib.hid (HB5.out.trans (hb6.mono HB5.out.size)); clear hb6)
            obtain ⟨⟨d0, d1, d2⟩, _⟩ := HBOX.out w6 HB6.out
            go_wp2
            go_ret
            exact ⟨rfl, HBW1.out.trans (HB6.out.mono HBW1.out.size)⟩
        · rw [if_pos (.inl k1)] at KC
          dsimp only at KC
          have z1 : (r != wr) = true := by simpa using k1
          have KC := Lib.hid KC
          clear k1
          go_upto_region 15 with (go_at_call 15; with_reducible refine KC.out.mono ?_; rintro e w6 ⟨rfl, hb6⟩; have HB6 := Lib.hid (HB5.out.trans (hb6.mono HB5.out.size)); clear hb6)
          obtain ⟨⟨d0, d1, d2⟩, _⟩ := HBOX.out w6 HB6.out
          go_wp2
          go_ret
          exact ⟨rfl, HBW1.out.trans (HB6.out.mono HBW1.out.size)⟩
      · go_upto_region 11 with (go_at_call 8; refine (one_new _).mono ?_; rintro e w4 ⟨g2, rfl, hn4, hb4⟩; have HB4 := Lib.hid (HB3.out.trans (hb4.mono HB3.out.size)); clear hn4 hb4)
        have K5 := Lib.hid (make_no w4 g2 r p u hf)
        clear hf
        go_wp2_with (go_at_call 17; with_reducible refine K5.out.mono ?_; rintro e w5 ⟨rfl, hd5⟩; have HB5 := Lib.hid (HB4.out.trans (hd5.below.mono HB4.out.size)); clear hd5)
        go_ret
        exact ⟨rfl, HBW1.out.trans (HB5.out.mono HBW1.out.size)⟩
  · have K3 := Lib.hid (make_no w2 g wr wp wu hm)
    clear hm
    go_wp2_with (go_at_call 17; with_reducible refine K3.out.mono ?_; rintro e w3 ⟨rfl, hd3⟩; have HB3 := Lib.hid (HB2.out.trans (hd3.below.mono HB2.out.size)); clear hd3)
    go_ret
    exact ⟨rfl, HBW1.out.trans (HB3.out.mono HBW1.out.size)⟩
theorem forged_row (cs0 : Array Value) (x0 : WordV) (a0 a1 a2 tg : Int) (w : World) (hr0 : dWord.K w x0 (Value.agg cs0).cells.toList) (hw0 : okWord x0) (h0 : (Lit.int .u8 a0).wf = true) (h1 : (Lit.int .u8 a1).wf = true) (h2 : (Lit.int .u8 a2).wf = true) (ht : (Lit.int .u8 tg).wf = true) :
    Calls Try.prog 4 #[.agg cs0, .agg #[.int .u8 a0, .int .u8 a1, .int .u8 a2], .int .u8 tg] w fun e w' => e = .returned (.bool true) ∧ Below w.heap.size w w' := by
  have e0 : cs0 = wv x0 := word_cells hr0
  subst e0
  exact forged_calls w x0.1 x0.2.1 x0.2.2 a0 a1 a2 tg hw0.1 (wf_bd h0 (by decide) (by decide)) (wf_bd h1 (by decide) (by decide)) (wf_bd h2 (by decide) (by decide)) (wf_bd ht (by decide) (by decide))
end Go.Proofs.Ytmidmdbhbhjcdaa.By
