/-
  The reference's Read, as vouch.Read: the voucher that the bytes are, or refused. Condition: bytes are bytes.
-/
import Derived.Test.YtmidmdbhbhjcdaaVk
namespace Go.Proofs.Ytmidmdbhbhjcdaa.By
open Go.RowKit Go.Shelf Go.Proofs.Ytmidmdbhbhjcdaa.Sp Go.Proofs.Ytmidmdbhbhjcdaa.Nt Go.Proofs.Ytmidmdbhbhjcdaa.H Go.Proofs.Ytmidmdbhbhjcdaa.Uv Go.Proofs.Ytmidmdbhbhjcdaa.Fr Go.Proofs.YtmidmdbhbhjcdaaW.PrintWords Go.Proofs.YtmidmdbhbhjcdaaW.PrintLast Go.Proofs.YtmidmdbhbhjcdaaW.PrintMore
set_option linter.unusedVariables false
set_option linter.unusedSimpArgs false
theorem eachF_bd (n : Nat) : ∀ (l : List Int) (a : Int), Bytes l → ∀ x ∈ eachF n l a, 0 ≤ x.2 ∧ x.2 ≤ 9223372036854775807 := by
  induction n with
  | zero => intro l a _ x hx; cases hx
  | succ n ih =>
    intro l a hl x hx
    unfold eachF at hx
    split at hx
    · cases hx
    · split at hx
      · rename_i h
        rcases List.mem_cons.1 hx with rfl | hx
        · exact ⟨(getI_k l hl h).2.2.2.1, (getI_k l hl h).2.2.2.2⟩
        · exact ih _ _ (hl.drop _) x hx
      · cases hx
theorem reach_n (w : World) (A : Option Addr) (n c : Nat) (l : List Int) (hn : n = l.length) (hr : Kd.C (Kd.int .u8) w A n l) (hc : n ≤ c) (hb : Bytes l) (hl : n ≤ 1000000) (N : List Int) (hN : (eachL l).map Prod.snd = N) :
    Calls Try.prog 32 #[.slice A n c] w fun e w' => ∃ A' m' c' v, e = .returned (.tuple #[.slice A' m' c', v]) ∧ m' = N.length ∧ m' ≤ c' ∧ (Kd.int .u64).C w' A' m' N ∧ (0 < m' → ∃ g, A' = some ⟨g, 0, none⟩) ∧ Below w.heap.size w w' := by
  subst hn
  obtain ⟨k, hk⟩ := (reach_yes l hb (by omega)).rounds
  rw [hN] at hk
  refine (embrasureref01_Each.calls k A c l _ _ w hr hc hk).mono ?_
  rintro e w' ⟨va, vb, he, ha, hb', hw⟩
  obtain ⟨A', c', rfl, h1, h2⟩ := Kd.R_reads ha
  refine ⟨A', _, c', vb, he, rfl, h1, h2, fun h0 => ?_, hw⟩
  obtain ⟨inner, ho⟩ := Kd.R_own ha
  rcases ho.2 with ⟨e, _⟩ | ⟨g', cap, cur, e, _⟩
  · injection e with e1 e2 e3
    omega
  · injection e with e1 e2 e3
    exact ⟨g', e1⟩
set_option maxRecDepth 100000 in
set_option maxHeartbeats 2000000 in
theorem rread_none (w : World) (A : Option Addr) (c : Nat) (l : List Int) (hr : Kd.C (Kd.int .u8) w A l.length l) (hc : l.length ≤ c) (hb : Bytes l) (hl : l.length ≤ 1000000) (he : ¬ (getF l).2.2 = 0 ∨ (getF l).1.length < 3) :
    Calls Try.prog 14 #[.slice A l.length c] w fun e w' => e = .returned (.tuple #[.int .i64 0, .int .i64 0, .int .i64 0, .int .u64 0, .int .i64 3]) ∧ Below w.heap.size w w' := by
  have hq := rfget_calls w A c l hr hc hb (by omega)
  obtain ⟨⟨t, k, e⟩, hF⟩ : ∃ q, getF l = q := ⟨_, rfl⟩
  rw [hF] at hq he
  dsimp only at hq he
  obtain ⟨tn, htn⟩ : ∃ m, t.length = m := ⟨_, rfl⟩
  rw [htn] at he
  have HTN := Lib.hid htn
  have HQ := Lib.hid hq
  clear hq hF hr htn
  by_cases h0 : e = 0
  · subst h0
    have h3 : tn < 3 := he.resolve_left (fun h => h rfl)
    have b1 : decide ((tn : Int) < 3) = true := decide_eq_true (by omega)
    clear he
    go_enter Try.func14, Try.ntmps14
    go_wp2_with (go_at_call 30; with_reducible refine HQ.out.mono ?_; rintro e1 w1 ⟨v0, rfl, hR, hb1⟩; obtain ⟨A1, c1, hv1, _, _⟩ := Kd.R_reads hR; rw [HTN.out] at hv1; subst hv1; have HB := Lib.hid hb1; clear hb1 hR)
    refine bodyPost_ret (v := .tuple #[.int .i64 0, .int .i64 0, .int .i64 0, .int .u64 0, .int .i64 3]) (by simp [results, Try.results14, go_sem]) rfl ?_
    exact ⟨rfl, HB.out⟩
  · have b0 : (e != 0) = true := by simpa using h0
    clear he h0
    go_enter Try.func14, Try.ntmps14
    go_wp2_with (go_at_call 30; with_reducible refine HQ.out.mono ?_; rintro e1 w1 ⟨v0, rfl, hR, hb1⟩; have HB := Lib.hid hb1; clear hb1 hR)
    refine bodyPost_ret (v := .tuple #[.int .i64 0, .int .i64 0, .int .i64 0, .int .u64 0, .int .i64 3]) (by simp [results, Try.results14, go_sem]) rfl ?_
    exact ⟨rfl, HB.out⟩
set_option maxRecDepth 100000 in
set_option maxHeartbeats 4000000 in
theorem rread_in (w : World) (A : Option Addr) (c : Nat) (l : List Int) (hr : Kd.C (Kd.int .u8) w A l.length l) (hc : l.length ≤ c) (hb : Bytes l) (hl : l.length ≤ 1000000) (t : List Int) (k tag n e : Int) (hF : getF l = (t, k, 0)) (hG : getI (l.drop k.toNat) = (tag, n, e)) (h3 : 3 ≤ t.length) :
    Calls Try.prog 14 #[.slice A l.length c] w fun e w' => e = .returned (readR l) ∧ Below w.heap.size w w' := by
  have hq := rfget_calls w A c l hr hc hb (by omega)
  rw [hF] at hq
  dsimp only at hq
  obtain ⟨hk0, hloop, hkl, htl, htb⟩ := getF_ok hb hF
  obtain ⟨i0, hi0, _, hsz0, _⟩ := info_parts info8
  obtain ⟨A9, hcut9, hA9, hC9⟩ := print_drop_of (P := Try.prog) (Value.int .u8) 0 22 5 .i64 Try.underlying22 hi0 hsz0 A c l k hk0 (by omega) hc
  obtain ⟨m, hm⟩ : ∃ m, (l.drop k.toNat).length = m := ⟨_, rfl⟩
  obtain ⟨tn, htn⟩ : ∃ m, t.length = m := ⟨_, rfl⟩
  rw [hm] at hcut9 hC9 hA9
  rw [htn] at h3
  have HC9 := Lib.hid (fun (W : World) (h : Below w.heap.size w W) => Kd.C_of_reads (h1 := fun _ => rfl) (hA9 W (Kd.reads_of_C (Kd.C_below hr h))))
  have HU := Lib.hid (fun (W : World) (h : Below w.heap.size w W) => rget_n W A9 m (c - k.toNat) (l.drop k.toNat) hm.symm (HC9.out W h) hC9 (hb.drop _) tag n e hG)
  have b1 : decide ((tn : Int) < 3) = false := decide_eq_false (by omega)
  -- what the end says
  have HBd := Lib.hid (show (∀ r p u, e = 0 → (eachL (t.drop 3)).map Prod.snd = [r, p, u] → mayF r p u = true → ¬ vouchI r p u tag = l) → readR l = .tuple #[.int .i64 0, .int .i64 0, .int .i64 0, .int .u64 0, .int .i64 3] from fun h => readR_bad fun r p u tag' hg => by
    have e1 := (good_F hg).1
    rw [hF] at e1
    have e2 : t = textL [r, p, u] := congrArg Prod.fst e1
    have ek : k = ((frameI (textL [r, p, u])).length : Int) := congrArg (fun q => q.2.1) e1
    have e3 := good_each hg
    rw [← e2] at e3
    have e4 := good_tag hg
    rw [ek, Int.toNat_natCast, e4] at hG
    have g1 : tag' = tag := congrArg Prod.fst hG
    have g3 : (0 : Int) = e := congrArg (fun q => q.2.2) hG
    exact h r p u g3.symm e3 hg.1 (by rw [← g1]; exact hg.2.2.2.symm))
  have HGd := Lib.hid (show ∀ r p u, e = 0 → mayF r p u = true → vouchI r p u tag = l → readR l = .tuple #[.int .i64 r, .int .i64 p, .int .i64 u, .int .u64 tag, .int .i64 0] from fun r p u h0 h1 h2 => by
    subst h0
    obtain ⟨g0, g1, _⟩ := getI_ok _ tag n (hb.drop _) hG
    exact readR_good ⟨h1, g0, g1, h2.symm⟩)
  have HTag := Lib.hid (show e = 0 → 0 ≤ tag ∧ tag ≤ 9223372036854775807 from fun h0 => by
    subst h0
    obtain ⟨g0, g1, _⟩ := getI_ok _ tag n (hb.drop _) hG
    exact ⟨g0, g1⟩)
  obtain ⟨N, hN⟩ : ∃ N, (eachL (t.drop 3)).map Prod.snd = N := ⟨_, rfl⟩
  have HNB := Lib.hid (show ∀ v ∈ N, 0 ≤ v ∧ v ≤ 9223372036854775807 from fun v hv => by
    rw [← hN] at hv
    obtain ⟨x, hx, rfl⟩ := List.mem_map.1 hv
    exact eachF_bd _ _ _ (htb.drop 3) x hx)
  rw [hN] at HBd
  obtain ⟨q, hqq⟩ : ∃ q, tn - 3 = q := ⟨_, rfl⟩
  have hdl : q = (t.drop 3).length := by rw [List.length_drop]; omega
  have hcut3 := fun (A1 : Option Addr) (c1 : Nat) => print_cut_of (P := Try.prog) (Value.int .u8) 0 22 5 .i64 Try.underlying22 hi0 hsz0 A1 tn c1 3 h3
  rw [hqq] at hcut3
  have HCUT := Lib.hid hcut3
  have KE := Lib.hid (fun (W : World) (A2 : Option Addr) (c2 : Nat) (h : (Kd.int .u8).C W A2 q (t.drop 3)) (hc2 : q ≤ c2) => reach_n W A2 q c2 (t.drop 3) hdl h hc2 (htb.drop 3) (by omega) N hN)
  have HQ := Lib.hid hq
  have HTN := Lib.hid htn
  have HRL := Lib.hid hr
  have HKR := Lib.hid (show l.length ≤ 1000000 from hl)
  have HQN := Lib.hid (show q + 3 = tn by omega)
  clear hq hA9 hi0 hsz0 hF hG htb htn hm hb htl hloop hN hqq hdl hcut3 hr
  go_enter Try.func14, Try.ntmps14
  go_upto_region 5 with (first
    | (go_at_call 30; with_reducible refine HQ.out.mono ?_; rintro e1 w1 ⟨v1, rfl, hR1, hb1⟩; obtain ⟨A1, c1, hv1, hc1, hC1⟩ := Kd.R_reads hR1; rw [HTN.out] at hv1 hC1 hc1; subst hv1; have HC1 := Lib.hid hC1; have HB1 := Lib.hid hb1; clear hR1 hb1 hC1)
    | (go_at_call 31; with_reducible refine (HU.out _ HB1.out).mono ?_; rintro e2 w2 ⟨rfl, hd2⟩; have HB2 := Lib.hid (HB1.out.trans (hd2.below.mono HB1.out.size)); have HC2 := Lib.hid (Kd.C_below HC1.out hd2.below); clear hd2))
  obtain ⟨A2, hcut2, hA2⟩ := HCUT.out A1 c1
  have hcut2 : ∀ W : World, (Instr.slice 22 (.slice A1 tn c1) (some (.int .i64 3)) none none).run Try.prog W = .ok (.slice A2 q (c1 - 3)) W := hcut2
  have K5 := Lib.hid (KE.out w2 A2 (c1 - 3) (Kd.C_of_reads (h1 := fun _ => rfl) (hA2 w2 t hc1 (Kd.reads_of_C HC2.out))) (by have := HQN.out; omega))
  clear hA2 hcut9
  go_upto_region 6 with (go_at_call 32; with_reducible refine K5.out.mono ?_; rintro e3 w3 ⟨A3, m3, c3, v3, rfl, hm3, hc3, hC3, hg3, hb3⟩; have HG3 := Lib.hid hg3; clear hg3; have HB3 := Lib.hid (HB2.out.trans (hb3.mono HB2.out.size)); have HC3 := Lib.hid hC3; have HM3 := Lib.hid hm3; clear hb3 hC3 hm3)
  clear hcut2
  by_cases h0 : e = 0
  · have b0 : (e != 0) = false := by simp [h0]
    have b0' : ((0 : Int) != 0) = false := rfl
    subst h0
    by_cases hn3 : m3 = 3
    · subst hn3
      obtain ⟨r, p, u, hNe⟩ := three HM3.out.symm
      subst hNe
      obtain ⟨g, rfl⟩ := HG3.out (by omega)
      obtain ⟨_, e0, d0⟩ := cell_of_C HC3.out 0 (by simp) rfl
      injection e0 with e0
      subst e0
      obtain ⟨_, e0, d1⟩ := cell_of_C HC3.out 1 (by simp) rfl
      injection e0 with e0
      subst e0
      obtain ⟨_, e0, d2⟩ := cell_of_C HC3.out 2 (by simp) rfl
      injection e0 with e0
      subst e0
      replace d0 : w3.cell? ⟨g, 0, none⟩ = some (.int .u64 r) := d0
      replace d1 : w3.cell? ⟨g, 1, none⟩ = some (.int .u64 p) := d1
      replace d2 : w3.cell? ⟨g, 2, none⟩ = some (.int .u64 u) := d2
      obtain ⟨br, bp, bu⟩ : (0 ≤ r ∧ r ≤ 9223372036854775807) ∧ (0 ≤ p ∧ p ≤ 9223372036854775807) ∧ (0 ≤ u ∧ u ≤ 9223372036854775807) := ⟨HNB.out r (by simp), HNB.out p (by simp), HNB.out u (by simp)⟩
      have x0 : IntKind.i64.wrap r = r := i64_of (by omega)
      have x1 : IntKind.i64.wrap p = p := i64_of (by omega)
      have x2 : IntKind.i64.wrap u = u := i64_of (by omega)
      have b3 : ((3 : Int) != 3) = false := rfl
      by_cases hm : mayF r p u = true
      · have hmm := (mayF_iff r p u).1 hm
        have g0 : decide (1099511627776 < r) = false := decide_eq_false (by omega)
        have g1 : decide (1099511627776 < p) = false := decide_eq_false (by omega)
        have g2 : decide (1099511627776 < u) = false := decide_eq_false (by omega)
        have KM := fun (W : World) => rmay_calls W r p u
        rw [hm] at KM
        have KM := Lib.hid KM
        have HM := Lib.hid hm
        have htg := HTag.out rfl
        have KB := Lib.hid (fun W => rbytes_calls W r p u tag br bp bu htg)
        obtain ⟨nv, hnv⟩ : ∃ m, (vouchI r p u tag).length = m := ⟨_, rfl⟩
        have hnvl : nv ≤ 50 := by rw [← hnv]; exact vouch_len r p u tag
        rw [hnv] at KB
        have HNV := Lib.hid hnv
        clear hm hmm hnv
        go_quiet ((go_at_call 9; exact Calls.quiet_of ((KM.out _).mono (fun e w6 h => ⟨h.1, h.2.out⟩))))
        obtain ⟨V, hV⟩ : ∃ V, w3.drewN nq = V := ⟨_, rfl⟩
        have HV3 := Lib.hid (show Below w3.heap.size w3 V from by rw [← hV]; exact below_drN (Below.refl _ _) _)
        rw [hV]
        clear hV
        replace d0 := (HV3.out.cell (World.block_lt_of_cell? _ _ d0)).trans d0
        replace d1 := (HV3.out.cell (World.block_lt_of_cell? _ _ d1)).trans d1
        replace d2 := (HV3.out.cell (World.block_lt_of_cell? _ _ d2)).trans d2
        have HBV := Lib.hid (HB3.out.trans (HV3.out.mono HB3.out.size))
        clear g0 g1 g2
        go_upto_region 8 with fail
        obtain ⟨bt, hbt⟩ : ∃ b, decide (vouchI r p u tag = l) = b := ⟨_, rfl⟩
        have HBT := Lib.hid hbt
        have HCL := Lib.hid (Kd.C_below HRL.out HBV.out)
        have hbd : Below V.heap.size V V.drew := ⟨rfl, rfl, rfl, Nat.le_refl _, fun _ _ => rfl⟩
        have HCELL := Lib.hid (show ∀ W, Below V.heap.size V W → W.cell? ⟨g, 0, none⟩ = some (.int .u64 r) ∧ W.cell? ⟨g, 1, none⟩ = some (.int .u64 p) ∧ W.cell? ⟨g, 2, none⟩ = some (.int .u64 u) from fun W hW =>
          ⟨(hW.cell (World.block_lt_of_cell? _ _ d0)).trans d0, (hW.cell (World.block_lt_of_cell? _ _ d1)).trans d1, (hW.cell (World.block_lt_of_cell? _ _ d2)).trans d2⟩)
        clear hbt
        go_cut [99] from 83 (fun s99 wx => ((s99 = .bool false ∧ bt = true) ∨ (s99 = .bool true ∧ bt = false)) ∧ Hid (Below V.heap.size V wx))
        case first =>
         go_region_held3 (fun w' => w'.cell? ⟨g, 0, none⟩ = some (.int .u64 r) ∧ w'.cell? ⟨g, 1, none⟩ = some (.int .u64 p) ∧ w'.cell? ⟨g, 2, none⟩ = some (.int .u64 u)) (first | exact ⟨d0, d1, d2⟩ | exact f7 | exact f8 | go_keep)
          (first
            | (go_at_call 20; refine (KB.out _).mono ?_; rintro e w7 ⟨A7, c7, rfl, hc7, hR7, hb7⟩; have HB7 := Lib.hid (hbd.trans hb7); have f7 := HCELL.out w7 HB7.out; have HC7 := Lib.hid (R_C hR7).1; clear hb7 hR7)
            | (go_at_call 19; refine (same_n w7 A7 nv c7 (vouchI r p u tag) A l.length c l HNV.out.symm rfl HC7.out hc7 (Kd.C_below HCL.out HB7.out) hc (by omega)).mono ?_; rw [HBT.out]; rintro e w8 ⟨rfl, hd8⟩; have HB8 := Lib.hid (HB7.out.trans (hd8.below.mono HB7.out.size)); have f8 := HCELL.out w8 HB8.out; clear hd8))
         cases bt with
         | true =>
           go_wp2_with fail
           go_meet
           case rel => exact ⟨.inl ⟨rfl, trivial⟩, HB8⟩
         | false =>
           go_wp2_with fail
           go_meet
           case rel => exact ⟨.inr ⟨rfl, trivial⟩, HB8⟩
        case rest =>
         obtain ⟨hres, HB8⟩ := hcut
         replace d0 := (HCELL.out wc HB8.out).1
         replace d1 := (HCELL.out wc HB8.out).2.1
         replace d2 := (HCELL.out wc HB8.out).2.2
         have HBW := Lib.hid (HBV.out.trans (HB8.out.mono HBV.out.size))
         rcases hres with ⟨rfl, rfl⟩ | ⟨rfl, rfl⟩
         · have HW := Lib.hid (HGd.out r p u (by simp) HM.out (of_decide_eq_true HBT.out))
           go_wp2_with fail
           go_quiet (fail)
           go_wp2
           refine bodyPost_ret (v := .tuple #[.int .i64 r, .int .i64 p, .int .i64 u, .int .u64 tag, .int .i64 0]) (by simp [results, Try.results14, go_sem]) rfl ?_
           exact ⟨by rw [HW.out], below_drN HBW.out _⟩
         · have HE := Lib.hid (HBd.out (fun r' p' u' _ hNe _ => by cases hNe; exact of_decide_eq_false HBT.out))
           go_wp2_with fail
           refine bodyPost_ret (v := .tuple #[.int .i64 0, .int .i64 0, .int .i64 0, .int .u64 0, .int .i64 3]) (by simp [results, Try.results14, go_sem]) rfl ?_
           exact ⟨by rw [HE.out], HBW.out⟩
      · have HE := Lib.hid (HBd.out (fun r' p' u' _ hNe hm' => absurd (by cases hNe; exact hm') hm))
        have hmf : mayF r p u = false := by simpa using hm
        have KM := fun (W : World) => rmay_calls W r p u
        rw [hmf] at KM
        have KM := Lib.hid KM
        clear hm hmf
        by_cases k0 : 1099511627776 < r
        · have g0 : decide (1099511627776 < r) = true := decide_eq_true k0
          clear k0
          go_quiet (fail)
          go_wp2
          refine bodyPost_ret (v := .tuple #[.int .i64 0, .int .i64 0, .int .i64 0, .int .u64 0, .int .i64 3]) (by simp [results, Try.results14, go_sem]) rfl ?_
          exact ⟨by rw [HE.out], below_drN HB3.out _⟩
        · have g0 : decide (1099511627776 < r) = false := decide_eq_false k0
          by_cases k1 : 1099511627776 < p
          · have g1 : decide (1099511627776 < p) = true := decide_eq_true k1
            clear k0 k1
            go_quiet (fail)
            go_wp2
            refine bodyPost_ret (v := .tuple #[.int .i64 0, .int .i64 0, .int .i64 0, .int .u64 0, .int .i64 3]) (by simp [results, Try.results14, go_sem]) rfl ?_
            exact ⟨by rw [HE.out], below_drN HB3.out _⟩
          · have g1 : decide (1099511627776 < p) = false := decide_eq_false k1
            by_cases k2 : 1099511627776 < u
            · have g2 : decide (1099511627776 < u) = true := decide_eq_true k2
              clear k0 k1 k2
              go_quiet (fail)
              go_wp2
              refine bodyPost_ret (v := .tuple #[.int .i64 0, .int .i64 0, .int .i64 0, .int .u64 0, .int .i64 3]) (by simp [results, Try.results14, go_sem]) rfl ?_
              exact ⟨by rw [HE.out], below_drN HB3.out _⟩
            · have g2 : decide (1099511627776 < u) = false := decide_eq_false k2
              clear k0 k1 k2
              go_quiet ((go_at_call 9; exact Calls.quiet_of ((KM.out _).mono (fun e w6 h => ⟨h.1, h.2.out⟩))))
              go_wp2
              refine bodyPost_ret (v := .tuple #[.int .i64 0, .int .i64 0, .int .i64 0, .int .u64 0, .int .i64 3]) (by simp [results, Try.results14, go_sem]) rfl ?_
              exact ⟨by rw [HE.out], below_drN HB3.out _⟩
    · have b3 : ((m3 : Int) != 3) = true := by simp; omega
      have HE := Lib.hid (HBd.out (fun r p u _ hNe _ => absurd (by rw [HM3.out, hNe]; rfl) hn3))
      clear hn3
      go_quiet (fail)
      go_wp2
      refine bodyPost_ret (v := .tuple #[.int .i64 0, .int .i64 0, .int .i64 0, .int .u64 0, .int .i64 3]) (by simp [results, Try.results14, go_sem]) rfl ?_
      exact ⟨by rw [HE.out], below_drN HB3.out _⟩
  · have b0 : (e != 0) = true := by simpa using h0
    have HE := Lib.hid (HBd.out (fun r p u he => absurd he h0))
    clear h0
    go_quiet (fail)
    go_wp2
    refine bodyPost_ret (v := .tuple #[.int .i64 0, .int .i64 0, .int .i64 0, .int .u64 0, .int .i64 3]) (by simp [results, Try.results14, go_sem]) rfl ?_
    exact ⟨by rw [HE.out], below_drN HB3.out _⟩
theorem rread_calls (w : World) (A : Option Addr) (n c : Nat) (l : List Int) (hn : n = l.length) (hr : Kd.C (Kd.int .u8) w A n l) (hc : n ≤ c) (hb : Bytes l) (hl : n ≤ 1000000) :
    Calls Try.prog 14 #[.slice A n c] w fun e w' => e = .returned (readR l) ∧ Below w.heap.size w w' := by
  subst hn
  obtain ⟨⟨t, k, e⟩, hF⟩ : ∃ q, getF l = q := ⟨_, rfl⟩
  by_cases he : ¬ e = 0 ∨ t.length < 3
  · have hbad : readR l = .tuple #[.int .i64 0, .int .i64 0, .int .i64 0, .int .u64 0, .int .i64 3] := readR_bad fun r p u tag hg => by
      have e1 := (good_F hg).1
      rw [hF] at e1
      have e2 : t = textL [r, p, u] := congrArg Prod.fst e1
      have e3 : e = 0 := congrArg (fun q => q.2.2) e1
      rcases he with he | he
      · exact he e3
      · rw [e2] at he
        unfold textL at he
        rw [List.length_append] at he
        have : markL.length = 3 := rfl
        omega
    rw [hbad]
    exact rread_none w A c l hr hc hb hl (by rw [hF]; exact he)
  · obtain ⟨⟨tag, n, e2⟩, hG⟩ : ∃ q, getI (l.drop k.toNat) = q := ⟨_, rfl⟩
    have h0 : e = 0 := Classical.byContradiction fun h => he (.inl h)
    subst h0
    exact rread_in w A c l hr hc hb hl t k tag n e2 hF hG (by have : ¬ t.length < 3 := fun h => he (.inr h); omega)
end Go.Proofs.Ytmidmdbhbhjcdaa.By
