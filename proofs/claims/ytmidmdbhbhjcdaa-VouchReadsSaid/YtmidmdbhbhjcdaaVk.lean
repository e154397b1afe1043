/-
  The reference's Bytes; VouchMakes: every voucher is what the document says, or refused. No condition.
-/
import Derived.Test.YtmidmdbhbhjcdaaVo
namespace Go.Proofs.Ytmidmdbhbhjcdaa.By
open Go.RowKit Go.Shelf Go.Proofs.Ytmidmdbhbhjcdaa.Sp Go.Proofs.Ytmidmdbhbhjcdaa.Nt Go.Proofs.Ytmidmdbhbhjcdaa.H Go.Proofs.Ytmidmdbhbhjcdaa.Uv Go.Proofs.Ytmidmdbhbhjcdaa.Fr Go.Proofs.YtmidmdbhbhjcdaaW.PrintWords Go.Proofs.YtmidmdbhbhjcdaaW.PrintLast Go.Proofs.YtmidmdbhbhjcdaaW.PrintMore
set_option linter.unusedVariables false
set_option linter.unusedSimpArgs false
set_option maxRecDepth 100000 in
set_option maxHeartbeats 2000000 in
theorem rbytes_calls (w : World) (r p u tag : Int) (hr : 0 ≤ r ∧ r ≤ 9223372036854775807) (hp : 0 ≤ p ∧ p ≤ 9223372036854775807) (hu : 0 ≤ u ∧ u ≤ 9223372036854775807) (htag : 0 ≤ tag ∧ tag ≤ 9223372036854775807) :
    Calls Try.prog 20 #[.int .i64 r, .int .i64 p, .int .i64 u, .int .u64 tag] w fun e w' => ∃ A c, e = .returned (.slice A (vouchI r p u tag).length c) ∧ (vouchI r p u tag).length ≤ c ∧ (Kd.int .u8).R 5 w' w.heap.size (fun _ => True) (.slice A (vouchI r p u tag).length c) (vouchI r p u tag) ∧ Below w.heap.size w w' := by
  have htl := text3_len r p u
  obtain ⟨m7, hm7⟩ : ∃ m, (textL [r, p, u]).length = m := ⟨_, rfl⟩
  have KT := Lib.hid (rtext_calls w r p u hr hp hu)
  have HM7 := Lib.hid hm7
  have K9 := Lib.hid (show ∀ (W : World) (A : Option Addr) (c : Nat), Kd.C (Kd.int .u8) W A m7 (textL [r, p, u]) → m7 ≤ c → Calls Try.prog 37 #[.slice A m7 c] W fun e w' => ∃ v0, e = .returned (.tuple #[v0, .int .i64 0]) ∧ (Kd.int .u8).R 5 w' W.heap.size (fun _ => True) v0 (frameI (textL [r, p, u])) ∧ Below W.heap.size W w' from fun W A c h2 h3 => by
    rw [← hm7] at h2 h3 ⊢
    exact rfput_calls W A c (textL [r, p, u]) h2 h3 (by omega))
  obtain ⟨m9, hm9⟩ : ∃ m, (frameI (textL [r, p, u])).length = m := ⟨_, rfl⟩
  obtain ⟨mt, hmt⟩ : ∃ m, (putI tag).length = m := ⟨_, rfl⟩
  have hmt0 : 0 < mt := by rw [← hmt]; exact putI_pos htag.2
  have hmt9 : mt ≤ 9 := by rw [← hmt]; exact putI_len_le tag
  have hm9l : m9 ≤ 40 := by rw [← hm9]; unfold frameI; rw [List.length_append]; have := putI_len_le ((textL [r, p, u]).length : Int); omega
  have HM9 := Lib.hid hm9
  have HMT := Lib.hid hmt
  clear hm9 hmt hm7 htl
  go_enter Try.func20, Try.ntmps20
  go_upto_region 2 with (first
    | (go_at_call 11; with_reducible refine KT.out.mono ?_; rintro e w7 ⟨v7, rfl, hR7, hb7⟩; obtain ⟨A7, c7, hv7, hc7, hC7⟩ := Kd.R_reads hR7; rw [HM7.out] at hv7 hc7 hC7; subst hv7; have HC7 := Lib.hid hC7; have HB7 := Lib.hid hb7; clear hR7 hb7 hC7)
    | (go_at_call 37; refine (K9.out w7 A7 c7 HC7.out hc7).mono ?_; rintro e w9 ⟨v9, rfl, hR9, hb9⟩; obtain ⟨A9, c9, hv9, hc9, _⟩ := Kd.R_reads hR9; rw [HM9.out] at hv9; subst hv9; have HR9 := Lib.hid hR9; have HB9 := Lib.hid hb9; clear hR9 hb9))
  have K10 := Lib.hid (rput_calls w9 tag htag.1)
  go_wp2_with (first
    | (go_at_call 21; with_reducible refine K10.out.mono ?_; rintro e w10 ⟨v10, rfl, hR10, hb10⟩; obtain ⟨A10, c10, hv10, hc10, hC10⟩ := Kd.R_reads hR10; rw [HMT.out] at hv10 hC10; subst hv10; have HC10 := Lib.hid hC10; have HR10 := Lib.hid (Kd.R_below HR9.out hb10); have HB10 := Lib.hid (HB9.out.trans (hb10.mono HB9.out.size)); clear hR10 hb10 hC10)
    | ((with_reducible refine gate_builtin (b := .append) (xs := #[.tmp 19, .tmp 21]) rfl ?_); at_builtin; refine append_apd (w0 := w7) w7.heap.size rfl (.tmp 19) (.tmp 21) rfl (.slice A9 m9 c9) (frameI (textL [r, p, u])) (putI tag) A10 mt c10 rfl rfl (.inl HR10.out) HC10.out hmt0 HB10.out HB10.out.size (by have := HM9.out; omega) ?_; intro v11 w11 ho11 hb11; have HO11 := Lib.hid ho11; have HB11 := Lib.hid hb11; clear ho11 hb11))
  go_ret
  have ho := HO11.out
  obtain ⟨A11, c11, hv11, hc11, _⟩ := Kd.R_reads ho
  subst hv11
  exact ⟨A11, c11, rfl, hc11, Kd.R_lower ho HB7.out.size, HB7.out.trans (HB11.out.mono HB7.out.size)⟩
set_option maxRecDepth 100000 in
set_option maxHeartbeats 4000000 in
theorem makes_calls (w : World) (r p u r' p' u' : Int) :
    Calls Try.prog 5 #[.agg #[.int .i64 r, .int .i64 p, .int .i64 u], .agg #[.int .i64 r', .int .i64 p', .int .i64 u']] w fun e w' => e = .returned (.bool true) ∧ Below w.heap.size w w' := by
  have HA := Lib.hid (fun W => awake_calls W)
  obtain ⟨W, hW⟩ : ∃ W, (w.alloc (.cells #[.int .i64 r, .int .i64 p, .int .i64 u] 24)).alloc (.cells #[.int .i64 r', .int .i64 p', .int .i64 u'] 24) = W := ⟨_, rfl⟩
  have hbW : Below w.heap.size w W := by rw [← hW]; exact ((Below.refl _ w).alloc (Nat.le_refl _) _).alloc (by simp) _
  have hsW : W.heap.size = w.heap.size + 2 := by rw [← hW]; simp
  have e1 : W.heap[w.heap.size]? = some (.cells #[.int .i64 r, .int .i64 p, .int .i64 u] 24 (0, 0)) := by
    rw [← hW]; exact (((Below.refl (w.heap.size + 1) (w.alloc _)).alloc (by simp) _).block w.heap.size (by omega)).trans (new_cellsN w _ _)
  have e2 : W.heap[w.heap.size + 1]? = some (.cells #[.int .i64 r', .int .i64 p', .int .i64 u'] 24 (0, 0)) := by
    rw [← hW]; have h := new_cellsN (w.alloc (.cells #[.int .i64 r, .int .i64 p, .int .i64 u] 24)) 24 #[.int .i64 r', .int .i64 p', .int .i64 u']; rw [World.size_alloc] at h; exact h
  have HE1 := Lib.hid e1
  have HE2 := Lib.hid e2
  have HB := Lib.hid hbW
  have HSW := Lib.hid hsW
  clear e1 e2 hbW hsW
  go_enter Try.func5, Try.ntmps5
  go_upto_region 3 with (go_at_call 7; refine (HA.out _).mono ?_; rintro e w1 ⟨rfl, hb1⟩; have HB1 := Lib.hid hb1; clear hb1)
  have HBW1 := Lib.hid (HB.out.trans (HB1.out.mono HB.out.size))
  clear hW
  go_upto_region 4 with (go_at_call 8; refine (one_new _).mono ?_; rintro e w2 ⟨g, rfl, hn, hb2⟩; have HN := Lib.hid hn; have HB2 := Lib.hid hb2; clear hn hb2)
  have HBOX := Lib.hid (show ∀ V : World, Below w1.heap.size w1 V → (V.cell? ⟨w.heap.size, 0, none⟩ = some (.int .i64 r) ∧ V.cell? ⟨w.heap.size, 1, none⟩ = some (.int .i64 p) ∧ V.cell? ⟨w.heap.size, 2, none⟩ = some (.int .i64 u)) ∧ V.cell? ⟨w.heap.size + 1, 0, none⟩ = some (.int .i64 r') ∧ V.cell? ⟨w.heap.size + 1, 1, none⟩ = some (.int .i64 p') ∧ V.cell? ⟨w.heap.size + 1, 2, none⟩ = some (.int .i64 u') from fun V hV => by
    have h1 := HSW.out
    have h2 := HB1.out.size
    have x1 := (hV.block _ (by omega)).trans ((HB1.out.block _ (by omega)).trans HE1.out)
    have x2 := (hV.block _ (by omega)).trans ((HB1.out.block _ (by omega)).trans HE2.out)
    exact ⟨⟨cell_cellsN x1 0 (by simp), cell_cellsN x1 1 (by simp), cell_cellsN x1 2 (by simp)⟩, cell_cellsN x2 0 (by simp), cell_cellsN x2 1 (by simp), cell_cellsN x2 2 (by simp)⟩)
  obtain ⟨⟨d0, d1, d2⟩, _⟩ := HBOX.out w2 HB2.out
  by_cases hm : mayF r p u = true
  · have K3 := make_calls w2 w1.heap.size g [] _ r p u HN.out HB2.out.size (by simp)
    rw [make_first hm] at K3
    dsimp only at K3
    have K3 := Lib.hid K3
    have KM := Lib.hid (fun W => rmay_calls W r p u)
    rw [hm] at KM
    have HM := Lib.hid hm
    have hmm := (mayF_iff r p u).1 hm
    obtain ⟨m1, m2, m3, m4, _, m6, m7⟩ := hmm
    obtain ⟨nx, hnx⟩ : ∃ n, (vouchI r p u 1).length = n := ⟨_, rfl⟩
    have hnxl : nx ≤ 50 := by rw [← hnx]; exact vouch_len r p u 1
    have HNX := Lib.hid hnx
    have KB := Lib.hid (fun W => rbytes_calls W r p u 1 (by omega) (by omega) (by omega) (by omega))
    rw [hnx] at KB
    clear hm hnx
    go_upto_region 5 with (go_at_call 17; with_reducible refine K3.out.mono ?_; rintro e w3 ⟨v3, s3, rfl, hR3, hs3, h3, hb3, hk3⟩; obtain ⟨A3, c3, hv3, hc3, hC3⟩ := Kd.R_reads hR3; rw [HNX.out] at hv3 hC3 hc3; subst hv3; have HC3 := Lib.hid hC3; have H3 := Lib.hid (h3.sub (av' := fun _ => False) (fun k hk => hk.elim)); have HB3 := Lib.hid (HB2.out.trans hb3); clear hR3 h3 hb3 hk3 hs3 hC3)
    obtain ⟨⟨d0, d1, d2⟩, _⟩ := HBOX.out w3 HB3.out
    go_upto_region 7 with (go_at_call 9; refine (KM.out _).mono ?_; rintro e w4 ⟨rfl, hd4⟩; have HB34 := Lib.hid hd4.below; have HB4 := Lib.hid (HB3.out.trans (hd4.below.mono HB3.out.size)); clear hd4)
    obtain ⟨⟨d0, d1, d2⟩, _⟩ := HBOX.out w4 HB4.out
    have HC4 := Lib.hid (Kd.C_below HC3.out HB34.out)
    have H4 := Lib.hid (H3.out.step' HB34.out)
    have KS := Lib.hid (fun (W : World) (A : Option Addr) (c : Nat) (hW : Below w4.heap.size w4 W) (hC : Kd.C (Kd.int .u8) W A nx (vouchI r p u 1)) (hc : nx ≤ c) => same_n W A3 nx c3 (vouchI r p u 1) A nx c (vouchI r p u 1) HNX.out.symm HNX.out.symm (Kd.C_below HC4.out hW) hc3 hC hc (by omega))
    have KC := Lib.hid (fun (W : World) (hW : Below w4.heap.size w4 W) => one_count W w1.heap.size g [(r, textL [r, p, u])] _ (H4.out.step' hW))
    have KR := Lib.hid (fun (W : World) (hW : Below w4.heap.size w4 W) => read_calls W A3 nx c3 (vouchI r p u 1) HNX.out.symm (Kd.C_below HC4.out hW) hc3 (vouch_bytes HM.out (by omega)) (by omega))
    rw [readR_good (vouch_good HM.out (by omega) (by omega))] at KR
    have KK := fun (W : World) (hW : Below w4.heap.size w4 W) => vcheck_calls W w1.heap.size g [(r, textL [r, p, u])] _ A3 nx c3 (vouchI r p u 1) r' p' u' (H4.out.step' hW) (by simp) HNX.out.symm (Kd.C_below HC4.out hW) hc3 (vouch_bytes HM.out (by omega)) (by omega)
    rw [checkV_good (readV_good (vouch_good HM.out (by omega) (by omega)))] at KK
    have hcf : checkF [(r, textL [r, p, u])] r (textL [r, p, u]) 1 = 0 := by unfold checkF; simp
    rw [hcf] at KK
    clear hcf
    have y1 : decide ((vouchI r p u 1) = (vouchI r p u 1)) = true := decide_eq_true rfl
    go_upto_region 9 with (first
      | (go_at_call 20; refine (KB.out _).mono ?_; rintro e w5 ⟨A5, c5, rfl, hc5, hR5, hb5⟩; have HC5 := Lib.hid (R_C hR5).1; have HB45 := Lib.hid hb5; clear hR5 hb5)
      | (go_at_call 19; refine (KS.out w5 A5 c5 HB45.out HC5.out hc5).mono ?_; rw [y1]; rintro e w6 ⟨rfl, hd6⟩; have HB46 := Lib.hid (HB45.out.trans (hd6.below.mono HB45.out.size)); clear hd6)
      | (go_at_call 18; refine (KC.out w6 HB46.out).mono ?_; rintro e w7 ⟨rfl, rfl⟩))
    go_upto_region 10 with (go_at_call 13; refine (KR.out w6 HB46.out).mono ?_; rintro e w7 ⟨rfl, hb7⟩; have HB47 := Lib.hid (HB46.out.trans (hb7.mono HB46.out.size)); clear hb7)
    have HB7 := Lib.hid (HB4.out.trans (HB47.out.mono HB4.out.size))
    obtain ⟨⟨d0, d1, d2⟩, f0, f1, f2⟩ := HBOX.out w7 HB7.out
    have K7 := KK w7 HB47.out
    clear KK
    have z0 : (r != r) = false := by simp
    have z1 : (p != p) = false := by simp
    have z2 : (u != u) = false := by simp
    by_cases k1 : r = r'
    · subst k1
      by_cases k2 : p = p'
      · subst k2
        rw [if_neg (by simp), if_neg (by simp)] at K7
        by_cases k3 : u ≤ u'
        · have y3 : decide (u ≤ u') = true := decide_eq_true k3
          rw [if_pos k3] at K7
          dsimp only at K7
          have K7 := Lib.hid K7
          clear k3
          go_upto_region 11 with (go_at_call 15; with_reducible refine K7.out.mono ?_; rintro e w8 ⟨rfl, hb8⟩; have HB8 := Lib.hid (HB7.out.trans (hb8.mono HB7.out.size)); clear hb8)
          obtain ⟨⟨d0, d1, d2⟩, f0, f1, f2⟩ := HBOX.out w8 HB8.out
          go_wp2
          go_ret
          exact ⟨rfl, HBW1.out.trans (HB8.out.mono HBW1.out.size)⟩
        · have y3 : decide (u ≤ u') = false := decide_eq_false k3
          rw [if_neg k3] at K7
          dsimp only at K7
          have K7 := Lib.hid K7
          clear k3
          go_upto_region 11 with (go_at_call 15; with_reducible refine K7.out.mono ?_; rintro e w8 ⟨rfl, hb8⟩; have HB8 := Lib.hid (HB7.out.trans (hb8.mono HB7.out.size)); clear hb8)
          obtain ⟨⟨d0, d1, d2⟩, f0, f1, f2⟩ := HBOX.out w8 HB8.out
          have z3 : (u == u) = true := by simp
          go_wp2
          go_ret
          exact ⟨rfl, HBW1.out.trans (HB8.out.mono HBW1.out.size)⟩
      · rw [if_pos (.inr k2)] at K7
        dsimp only at K7
        have y2 : (p' != p) = true := by simpa using fun e => k2 e.symm
        have K7 := Lib.hid K7
        clear k2
        go_upto_region 11 with (go_at_call 15; with_reducible refine K7.out.mono ?_; rintro e w8 ⟨rfl, hb8⟩; have HB8 := Lib.hid (HB7.out.trans (hb8.mono HB7.out.size)); clear hb8)
        obtain ⟨⟨d0, d1, d2⟩, f0, f1, f2⟩ := HBOX.out w8 HB8.out
        go_wp2
        go_ret
        exact ⟨rfl, HBW1.out.trans (HB8.out.mono HBW1.out.size)⟩
    · rw [if_pos (.inl k1)] at K7
      dsimp only at K7
      have y2 : (r' != r) = true := by simpa using fun e => k1 e.symm
      have K7 := Lib.hid K7
      clear k1
      go_upto_region 11 with (go_at_call 15; with_reducible refine K7.out.mono ?_; rintro e w8 ⟨rfl, hb8⟩; have HB8 := Lib.hid (HB7.out.trans (hb8.mono HB7.out.size)); clear hb8)
      obtain ⟨⟨d0, d1, d2⟩, f0, f1, f2⟩ := HBOX.out w8 HB8.out
      go_wp2
      go_ret
      exact ⟨rfl, HBW1.out.trans (HB8.out.mono HBW1.out.size)⟩
  · have K3 := Lib.hid (make_no w2 g r p u hm)
    have hmf : mayF r p u = false := by simpa using hm
    have KM := Lib.hid (fun W => rmay_calls W r p u)
    rw [hmf] at KM
    clear hm hmf
    go_upto_region 5 with (go_at_call 17; with_reducible refine K3.out.mono ?_; rintro e w3 ⟨rfl, hd3⟩; have HB23 := Lib.hid hd3.below; have HB3 := Lib.hid (HB2.out.trans (hd3.below.mono HB2.out.size)); clear hd3)
    obtain ⟨⟨d0, d1, d2⟩, _⟩ := HBOX.out w3 HB3.out
    go_wp2_with (first
      | (go_at_call 9; refine (KM.out _).mono ?_; rintro e w4 ⟨rfl, hd4⟩; have HB34 := Lib.hid hd4.below; have HB4 := Lib.hid (HB3.out.trans (hd4.below.mono HB3.out.size)); clear hd4; have KC := Lib.hid (one_count w4 w1.heap.size g [] _ (HN.out.step' (HB23.out.trans (HB34.out.mono HB23.out.size)))))
      | (go_at_call 18; with_reducible refine KC.out.mono ?_; rintro e w5 ⟨rfl, rfl⟩))
    go_ret
    exact ⟨rfl, HBW1.out.trans (HB4.out.mono HBW1.out.size)⟩
theorem makes_row (cs0 : Array Value) (x0 : WordV) (cs1 : Array Value) (x1 : WordV) (w : World) (hr0 : dWord.K w x0 (Value.agg cs0).cells.toList) (hw0 : okWord x0) (hr1 : dWord.K w x1 (Value.agg cs1).cells.toList) (hw1 : okWord x1) :
    Calls Try.prog 5 #[.agg cs0, .agg cs1] w fun e w' => e = .returned (.bool true) ∧ Below w.heap.size w w' := by
  have e0 : cs0 = wv x0 := word_cells hr0
  have e1 : cs1 = wv x1 := word_cells hr1
  subst e0 e1
  exact makes_calls w x0.1 x0.2.1 x0.2.2 x1.1 x1.2.1 x1.2.2
end Go.Proofs.Ytmidmdbhbhjcdaa.By
