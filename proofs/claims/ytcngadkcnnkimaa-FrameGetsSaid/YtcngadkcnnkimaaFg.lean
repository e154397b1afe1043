/-
  FrameGets: the walk of the law: whatever the bytes and the row: it returns true, and nothing that lay has turned. Condition: both are bytes.
-/
import Derived.Test.YtcngadkcnnkimaaFj
import Derived.Deep.RegionLaw
import Derived.Deep.RegionHeld3
namespace Go.Proofs.Ytcngadkcnnkimaa.Fr
open Go.RowKit Go.Shelf Go.Proofs.Ytcngadkcnnkimaa.H Go.Proofs.Ytcngadkcnnkimaa.Uv Go.Proofs.YtcngadkcnnkimaaW.PrintWords Go.Proofs.YtcngadkcnnkimaaW.PrintLast Go.Proofs.YtcngadkcnnkimaaW.PrintMore
set_option linter.unusedVariables false
set_option linter.unusedSimpArgs false
attribute [local go_sem] Oper.semAt_some

theorem wp_calm {P : Program} {c : Code} {Q : Exit → Act → World → Prop} {a : Act} {w : World} (h : c.wp P (Exit.then (fun a w => Q .normal a w) (fun _ _ _ => False)) a w) : c.wp P Q a w :=
  wp_mono h (by
    intro e a w h
    cases e <;> first | exact h | exact h.elim)
def fil (vs : List Int) : List Int := vs.filter (fun v => decide (v ≤ 9223372036854775807))
theorem row_full {w : World} {A : Option Addr} {n : Nat} {ls : List (List Int)} (h : (Kd.slice 5 (Kd.int .u8)).C w A n ls) (i : Nat) (hi : i < ls.length) : ∃ ad A1 c1, A = some ad ∧ w.cell? (ad.add i) = some (.slice A1 ls[i].length c1) ∧ ls[i].length ≤ c1 ∧ Kd.C (Kd.int .u8) w A1 ls[i].length ls[i] := by
  have hn := h.1
  obtain ⟨ad, hA, hc⟩ := h.2.2 (by omega)
  obtain ⟨c, _, ⟨A1, c1, rfl, hl, hr⟩, hcell⟩ := hc i ls[i] (List.getElem?_eq_getElem hi)
  have := hcell 0 _ rfl
  exact ⟨ad, A1, c1, hA, by simpa [Kd.slice] using this, hl, hr⟩
def putA (row : List Int) : List Int × Int := if 1200 < row.length then ([], 4) else (putI row.length ++ row, 0)
theorem putA_yes (row : List Int) : Ev (fun k => frame_Put.f k row) (putA row) := by
  unfold putA
  by_cases h : 1200 < row.length
  · rw [if_pos h]; exact fput_no row h
  · rw [if_neg h]; exact fput_yes row (by omega)
theorem rputA_yes (row : List Int) : Ev (fun k => embrasureref02_Put.f k row) (putA row) := by
  unfold putA
  by_cases h : 1200 < row.length
  · rw [if_pos h]; exact rfput_no row h
  · rw [if_neg h]; exact rfput_yes row (by omega)
theorem putA_len (row : List Int) : (putA row).1.length ≤ 2000 := by
  unfold putA
  have := putI_len_le (row.length : Int)
  by_cases h : 1200 < row.length
  · rw [if_pos h]; simp
  · rw [if_neg h, List.length_append]; omega
theorem getF_len (b : List Int) (hb : Bytes b) : (getF b).1.length ≤ 1200 := by
  by_cases h : (getF b).2.2 = 0
  · exact (getF_in hb h).2.2.1
  · by_cases h0 : (getI b).2.2 = 0
    · by_cases hv : 1200 < (getI b).1
      · rw [getF_long h0 hv]; simp
      · by_cases hs : (b.length : Int) - (getI b).2.1 < (getI b).1
        · rw [getF_short h0 hv hs]; simp
        · rw [getF_good h0 hv hs] at h; exact absurd rfl h
    · rw [getF_bad h0]; simp
set_option maxRecDepth 100000 in
set_option maxHeartbeats 4000000 in
theorem gets_in (A0 : Option Addr) (c0 : Nat) (l0 : List Int) (A1 : Option Addr) (c1 : Nat) (l1 : List Int) (w : World) (hr0 : Kd.C (Kd.int .u8) w A0 l0.length l0) (hc0 : l0.length ≤ c0) (hb0 : Bytes l0) (h40 : l0.length ≤ 4000) (hr1 : Kd.C (Kd.int .u8) w A1 l1.length l1) (hc1 : l1.length ≤ c1) (hb1 : Bytes l1) (h41 : l1.length ≤ 4000) :
    Calls Try.prog 5 #[.slice A0 l0.length c0, .slice A1 l1.length c1] w fun e w' => e = .returned (.bool true) ∧ Below w.heap.size w w' := by
  obtain ⟨ka, hka⟩ := awake_yes.rounds
  obtain ⟨kg, hkg⟩ := (fget_yes l0 hb0 (by omega)).rounds
  obtain ⟨kh, hkh⟩ := (rfget_yes l0 hb0 (by omega)).rounds
  obtain ⟨kp, hkp⟩ := (putA_yes l1).rounds
  obtain ⟨kq, hkq⟩ := (rputA_yes l1).rounds
  obtain ⟨kl, hkl⟩ := (all_yes l0 hb0 (by omega)).rounds
  obtain ⟨kc, hkc⟩ := (count_yes l0 hb0 (by omega)).rounds
  have hgl := getF_len l0 hb0
  have hpl := putA_len l1
  have hrl := rowsF_len 4000 l0 hb0 h40
  have hrr := rowsF_rows 4000 l0 hb0 h40
  obtain ⟨⟨x, n, e⟩, hx⟩ : ∃ q, getF l0 = q := ⟨_, rfl⟩
  obtain ⟨⟨p, g⟩, hp⟩ : ∃ q, putA l1 = q := ⟨_, rfl⟩
  obtain ⟨⟨rows, code⟩, hrows⟩ : ∃ q, rowsF l0 = q := ⟨_, rfl⟩
  rw [hx] at hkg hkh hgl
  rw [hp] at hkp hkq hpl
  rw [hrows] at hkl hkc hrl hrr
  dsimp only at hgl hpl hrl hrr hkc
  obtain ⟨ks, hks⟩ := (same_yes x x (by omega)).rounds
  obtain ⟨kt, hkt⟩ := (same_yes p p (by omega)).rounds
  rw [decide_eq_true rfl] at hks hkt
  obtain ⟨kr, hkr⟩ := (rows_yes rows rows (by omega) (fun r hr => by have := (hrr r hr).1; omega)).rounds
  rw [decide_eq_true rfl] at hkr
  have HROWS := Lib.hid hrows
  have Ka := Lib.hid hka
  have KG := Lib.hid hkg
  have KH := Lib.hid hkh
  have KP := Lib.hid hkp
  have KQ := Lib.hid hkq
  have KL := Lib.hid hkl
  have KC := Lib.hid hkc
  have KS := Lib.hid hks
  have KT := Lib.hid hkt
  have KR := Lib.hid hkr
  have HRR := Lib.hid hrr
  have HR0 := Lib.hid hr0
  have HR1 := Lib.hid hr1
  have HB0 := Lib.hid hb0
  clear hka hkg hkh hkp hkq hkl hkc hks hkt hkr hrr hr0 hr1 hb0 hb1 hx hp hrows
  have g0 : decide (4000 < (l0.length : Int)) = false := decide_eq_false (by omega)
  have g1 : decide (4000 < (l1.length : Int)) = false := decide_eq_false (by omega)
  have qe : (e == e) = true := by simp
  have qn : (n == n) = true := by simp
  have qg : (g == g) = true := by simp
  have qc : (code == code) = true := by simp
  have BR0 := Boxed.new w 4 (.bool false)
  have hbr : Below w.heap.size w (w.alloc (.cells #[.bool false] 4)) := (Below.refl _ _).alloc (Nat.le_refl _) _
  have HBR := Lib.hid hbr
  have HBR0 := Lib.hid BR0
  clear BR0 hbr
  refine (callsIn_wide (n := 8)).1 ?_
  refine callsIn_of_wp_marks Try.func5 rfl trivial (wpIn_wide.2 ?_) rfl
  simp only [Try.ntmps5, List.size_toArray, List.length_cons, List.length_nil, Nat.reduceAdd, Nat.reduceSub, Array.replicate_succ, Array.replicate_zero, List.push_toArray, List.append_toArray, List.nil_append, List.cons_append]
  go_upto_region 11 with (first
    | (go_at_call 8; refine (embrasurelaw02_awake.calls ka true _ Ka.out).mono ?_; rintro e1 w1 ⟨rfl, hb1⟩; have HB1 := Lib.hid (HBR.out.trans (hb1.mono HBR.out.size)); have HQ1 := Lib.hid hb1; clear hb1)
    | (go_at_call 10; refine (frame_Get.calls kg A0 c0 l0 x n e _ (Kd.C_below HR0.out HB1.out) hc0 KG.out).mono ?_; rintro e2 w2 ⟨v2, rfl, hR2, hb2⟩; obtain ⟨A2, c2, hv2, hc2, hC2⟩ := Kd.R_reads hR2; subst hv2; have HC2 := Lib.hid hC2; have HB2 := Lib.hid (HB1.out.trans (hb2.mono HB1.out.size)); have HQ2 := Lib.hid hb2; clear hb2 hR2 hC2)
    | (go_at_call 14; refine (embrasureref02_Get.calls kh A0 c0 l0 x n e _ (Kd.C_below HR0.out HB2.out) hc0 KH.out).mono ?_; rintro e3 w3 ⟨v3, rfl, hR3, hb3⟩; obtain ⟨A3, c3, hv3, hc3, hC3⟩ := Kd.R_reads hR3; subst hv3; have HC3 := Lib.hid hC3; have HB3 := Lib.hid (HB2.out.trans (hb3.mono HB2.out.size)); have HQ3 := Lib.hid hb3; clear hb3 hR3 hC3)
    | (go_at_call 9; refine (frame_Put.calls kp A1 c1 l1 p g _ (Kd.C_below HR1.out HB3.out) hc1 KP.out).mono ?_; rintro e4 w4 ⟨v4, rfl, hR4, hb4⟩; obtain ⟨A4, c4, hv4, hc4, hC4⟩ := Kd.R_reads hR4; subst hv4; have HC4 := Lib.hid hC4; have HB4 := Lib.hid (HB3.out.trans (hb4.mono HB3.out.size)); have HQ4 := Lib.hid hb4; clear hb4 hR4 hC4)
    | (go_at_call 15; refine (embrasureref02_Put.calls kq A1 c1 l1 p g _ (Kd.C_below HR1.out HB4.out) hc1 KQ.out).mono ?_; rintro e5 w5 ⟨v5, rfl, hR5, hb5⟩; obtain ⟨A5, c5, hv5, hc5, hC5⟩ := Kd.R_reads hR5; subst hv5; have HC5 := Lib.hid hC5; have HB5 := Lib.hid (HB4.out.trans (hb5.mono HB4.out.size)); have HQ5 := Lib.hid hb5; clear hb5 hR5 hC5)
    | (go_at_call 11; with_reducible refine (embrasureref01_Same.calls ks A2 c2 x A3 c3 x true _ (Kd.C_below HC2.out (HQ3.out.trans ((HQ4.out.trans (HQ5.out.mono HQ4.out.size)).mono HQ3.out.size))) hc2 (Kd.C_below HC3.out (HQ4.out.trans (HQ5.out.mono HQ4.out.size))) hc3 KS.out).mono ?_; rintro e6 w6 ⟨rfl, hd6⟩; have HQ6 := Lib.hid hd6.below; clear hd6)
    | (go_at_call 11; with_reducible refine (embrasureref01_Same.calls kt A4 c4 p A5 c5 p true _ (Kd.C_below HC4.out (HQ5.out.trans (HQ6.out.mono HQ5.out.size))) hc4 (Kd.C_below HC5.out HQ6.out) hc5 KT.out).mono ?_; rintro e7 w7 ⟨rfl, hd7⟩; have HQ7 := Lib.hid hd7.below; have HB7 := Lib.hid (HB5.out.trans ((HQ6.out.trans (hd7.below.mono HQ6.out.size)).mono HB5.out.size)); clear hd7))
  have hs7 := HB7.out.size
  have KSP := split_calls A0 c0 l0 w7 (Kd.C_below HR0.out HB7.out) hc0 HB0.out (by omega)
  rw [HROWS.out] at KSP
  dsimp only at KSP
  obtain ⟨r8, hr8⟩ : ∃ r8, (if code = 0 then rows else ([] : List (List Int))) = r8 := ⟨_, rfl⟩
  rw [hr8] at KSP
  have KSP := Lib.hid KSP
  have HR8 := Lib.hid hr8
  clear hr8
  clear qe qn qg
  go_upto_region 13 with (first
    | (go_at_call 16; refine KSP.out.mono ?_; rintro e8 w8 ⟨v8, rfl, hR8, hb8⟩; obtain ⟨A8, c8, hv8, hc8, hC8⟩ := Kd.R_reads hR8; subst hv8; have HC8 := Lib.hid hC8; have HB8 := Lib.hid (HB7.out.trans (hb8.mono hs7)); have HQ8 := Lib.hid hb8; clear hb8 hR8 hC8)
    | (go_at_call 17; refine (embrasureref02_All.calls kl A0 c0 l0 rows code _ (Kd.C_below HR0.out HB8.out) hc0 KL.out).mono ?_; rintro e9 w9 ⟨v9, rfl, hR9, hb9⟩; obtain ⟨A9, c9, hv9, hc9, hC9⟩ := Kd.S_reads hR9; subst hv9; have HC9 := Lib.hid hC9; have HQ9 := Lib.hid hb9; have HB9 := Lib.hid (HB8.out.trans (hb9.mono HB8.out.size)); clear hb9 hR9 hC9))
  obtain ⟨W9, hW9⟩ : ∃ W9, w9.alloc (.cells #[.slice A9 rows.length c9] 30) = W9 := ⟨_, rfl⟩
  rw [hW9]
  have hs9 : W9.heap.size = w9.heap.size + 1 := by rw [← hW9]; simp
  have hb99 : Below w9.heap.size w9 W9 := by rw [← hW9]; exact (Below.refl _ _).alloc (Nat.le_refl _) _
  have B17 : Boxed W9 w9.heap.size 30 (.slice A9 rows.length c9) := by rw [← hW9]; exact Boxed.new w9 _ _
  have HBW := Lib.hid (HB9.out.trans (hb99.mono HB9.out.size))
  have HC9W := Lib.hid (Kd.C_below HC9.out hb99)
  have HC8W := Lib.hid (Kd.C_below HC8.out (HQ9.out.trans (hb99.mono HQ9.out.size)))
  have HB17 := Lib.hid B17
  have c17 := B17.cell
  have hwr : w.heap.size < w9.heap.size := by
    have h1 : w.heap.size < w1.heap.size := by have := HQ1.out.size; simp at this; omega
    have h2 := HQ2.out.size
    have h3 := HQ3.out.size
    have h4 := HQ4.out.size
    have h5 := HQ5.out.size
    have h6 := HQ6.out.size
    have h7 := HQ7.out.size
    have h8 := HQ8.out.size
    have h9 := HQ9.out.size
    omega
  have HBR9 := Lib.hid (show Boxed W9 w.heap.size 4 (.bool false) from
    Boxed.below (Boxed.below (Boxed.below (Boxed.below (Boxed.below (Boxed.below (Boxed.below (Boxed.below (Boxed.below (Boxed.below HBR0.out HQ1.out) HQ2.out) HQ3.out) HQ4.out) HQ5.out) HQ6.out) HQ7.out) HQ8.out) HQ9.out) hb99)
  clear hW9 hb99 B17
  have K13 := Lib.hid (fun W (hW : Below W9.heap.size W9 W) => frame_Count.calls kc A0 c0 l0 (rows.length : Int) W (Kd.C_below HR0.out (HBW.out.trans (hW.mono HBW.out.size))) hc0 KC.out)
  have K18 := Lib.hid (fun (A : Option Addr) (c : Nat) W (hW : Below W9.heap.size W9 W) (hC : (Kd.slice 5 (Kd.int .u8)).C W9 A rows.length rows) (hc : rows.length ≤ c) => embrasureref02_Rows.calls kr A c rows A9 c9 rows true W (Kd.C_below hC hW) hc (Kd.C_below HC9W.out hW) hc9 KR.out)
  have hcx := True.intro
  go_cut [116] from 88 (fun s116 wx => s116 = .bool false ∧ Below W9.heap.size W9 wx)
  case first =>
    have qr : ((rows.length : Int) == (rows.length : Int)) = true := by simp
    have qr' : (rows.length == rows.length) = true := by simp
    by_cases hcode : code = 0
    · subst hcode
      have hr8 := HR8.out
      rw [if_pos rfl] at hr8
      subst hr8
      refine wp_calm ?_
      refine wp_region_held_drew (S := fun w' => w'.cell? ⟨w9.heap.size, 0, none⟩ = some (.slice A9 rows.length c9)) (by kernel_rfl) ?_ (fun hHeld => ?_)
      · exact c17
      refine wpAnyH_take (i := 0) (v := ?_) rfl (by kernel_rfl) (by kernel_rfl) (by kernel_rfl) (fun _ _ _ h => h) (Or.inl ⟨by rfl, ?_⟩) (by assumption) ?_
      rotate_left
      · (intro w hSw; (try dsimp only at hSw); go_simp; try with_reducible rfl)
      try simp only [Act.put, List.setIfInBounds_toArray, List.set_cons_zero, List.set_cons_succ, List.getElem_toArray, List.getElem_cons_succ, List.getElem_cons_zero]
      refine wpAnyH_take (i := 1) (v := ?_) rfl (by kernel_rfl) (by kernel_rfl) (by kernel_rfl) (fun _ _ _ h => h) (Or.inl ⟨by rfl, ?_⟩) (by assumption) ?_
      rotate_left
      · (intro w hSw; (try dsimp only at hSw); go_simp; try with_reducible rfl)
      try simp only [Act.put, List.setIfInBounds_toArray, List.set_cons_zero, List.set_cons_succ, List.getElem_toArray, List.getElem_cons_succ, List.getElem_cons_zero]
      refine wpAnyH_take (i := 2) (v := ?_) rfl (by kernel_rfl) (by kernel_rfl) (by kernel_rfl) (fun _ _ _ h => h) (Or.inl ⟨by rfl, ?_⟩) (by assumption) ?_
      rotate_left
      · (intro w hSw; (try dsimp only at hSw); go_simp; try with_reducible rfl)
      try simp only [Act.put, List.setIfInBounds_toArray, List.set_cons_zero, List.set_cons_succ, List.getElem_toArray, List.getElem_cons_succ, List.getElem_cons_zero]
      refine wpAnyH_take (i := 3) (v := ?_) rfl (by kernel_rfl) (by kernel_rfl) (by kernel_rfl) (fun _ _ _ h => h) (Or.inl ⟨by rfl, ?_⟩) (by assumption) ?_
      rotate_left
      · (intro w hSw; (try dsimp only at hSw); go_simp; try with_reducible rfl)
      try simp only [Act.put, List.setIfInBounds_toArray, List.set_cons_zero, List.set_cons_succ, List.getElem_toArray, List.getElem_cons_succ, List.getElem_cons_zero]
      refine wpAnyH_take (i := 4) (v := ?_) rfl (by kernel_rfl) (by kernel_rfl) (by kernel_rfl) (fun _ _ _ h => h) (Or.inl ⟨by rfl, ?_⟩) (by assumption) ?_
      rotate_left
      · (intro w hSw; (try dsimp only at hSw); go_simp; try with_reducible rfl)
      try simp only [Act.put, List.setIfInBounds_toArray, List.set_cons_zero, List.set_cons_succ, List.getElem_toArray, List.getElem_cons_succ, List.getElem_cons_zero]
      refine wpAnyH_take (i := 5) (v := ?_) rfl (by kernel_rfl) (by kernel_rfl) (by kernel_rfl) (fun _ _ _ h => h) (Or.inl ⟨by rfl, ?_⟩) (by assumption) ?_
      rotate_left
      · (intro w hSw; (try dsimp only at hSw); go_simp; try with_reducible rfl)
      try simp only [Act.put, List.setIfInBounds_toArray, List.set_cons_zero, List.set_cons_succ, List.getElem_toArray, List.getElem_cons_succ, List.getElem_cons_zero]
      refine wpAnyH_take (i := 6) (v := ?_) rfl (by kernel_rfl) (by kernel_rfl) (by kernel_rfl) (fun _ _ _ h => h) (Or.inl ⟨by rfl, ?_⟩) (by assumption) ?_
      rotate_left
      · (intro w hSw; (try dsimp only at hSw); go_simp; try with_reducible rfl)
      try simp only [Act.put, List.setIfInBounds_toArray, List.set_cons_zero, List.set_cons_succ, List.getElem_toArray, List.getElem_cons_succ, List.getElem_cons_zero]
      refine wpAnyH_take (i := 7) (v := ?_) rfl (by kernel_rfl) (by kernel_rfl) (by kernel_rfl) (fun _ _ _ h => h) (Or.inl ⟨by rfl, ?_⟩) (by assumption) ?_
      rotate_left
      · (intro w hSw; (try dsimp only at hSw); go_simp; try with_reducible rfl)
      try simp only [Act.put, List.setIfInBounds_toArray, List.set_cons_zero, List.set_cons_succ, List.getElem_toArray, List.getElem_cons_succ, List.getElem_cons_zero]
      refine wpAnyH_take (i := 8) (v := ?_) rfl (by kernel_rfl) (by kernel_rfl) (by kernel_rfl) (fun _ _ _ h => h) (Or.inl ⟨by rfl, ?_⟩) (by assumption) ?_
      rotate_left
      · (intro w hSw; (try dsimp only at hSw); go_simp; try with_reducible rfl)
      try simp only [Act.put, List.setIfInBounds_toArray, List.set_cons_zero, List.set_cons_succ, List.getElem_toArray, List.getElem_cons_succ, List.getElem_cons_zero]
      refine wpAnyH_ready (rs := [9]) (by kernel_rfl) (by simp) ?_
      refine AllReadyH.cons rfl (fun K hK => ?_) AllReadyH.nil
      go_simp
      go_at_call 18; refine (K18.out A8 c8 _ ?_ HC8W.out hc8).mono ?_; (first | exact Below.refl _ _ | exact (Below.refl _ _).drew); rintro e10 w10 ⟨rfl, hd10⟩; have hba : Below W9.heap.size W9 w10 := (by first | exact hd10.below | exact (Below.refl _ _).drew.trans hd10.below); have HBA := Lib.hid hba; have c17a := (HBA.out.cell (p := ⟨w9.heap.size, 0, none⟩) (by show w9.heap.size < _; omega)).trans c17; clear hd10 hba
      refine hK.out _ _ ?_ (fun hHeld => ?_)
      · exact c17a
      clear hK K
      try simp only [Act.put, List.setIfInBounds_toArray, List.set_cons_zero, List.set_cons_succ, List.getElem_toArray, List.getElem_cons_succ, List.getElem_cons_zero]
      refine wpAnyH_take (i := 10) (v := ?_) rfl (by kernel_rfl) (by kernel_rfl) (by kernel_rfl) (fun _ _ _ h => h) (Or.inl ⟨by rfl, ?_⟩) (by assumption) ?_
      rotate_left
      · (intro w hSw; (try dsimp only at hSw); go_simp; try with_reducible rfl)
      try simp only [Act.put, List.setIfInBounds_toArray, List.set_cons_zero, List.set_cons_succ, List.getElem_toArray, List.getElem_cons_succ, List.getElem_cons_zero]
      refine wpAnyH_take (i := 11) (v := ?_) rfl (by kernel_rfl) (by kernel_rfl) (by kernel_rfl) (fun _ _ _ h => h) (Or.inl ⟨by rfl, ?_⟩) (by assumption) ?_
      rotate_left
      · (intro w hSw; (try dsimp only at hSw); go_simp; try with_reducible rfl)
      try simp only [Act.put, List.setIfInBounds_toArray, List.set_cons_zero, List.set_cons_succ, List.getElem_toArray, List.getElem_cons_succ, List.getElem_cons_zero]
      refine wpAnyH_take (i := 12) (v := ?_) rfl (by kernel_rfl) (by kernel_rfl) (by kernel_rfl) (fun _ _ _ h => h) (Or.inl ⟨by rfl, ?_⟩) (by assumption) ?_
      rotate_left
      · (intro w hSw; (try dsimp only at hSw); go_simp; try with_reducible rfl)
      try simp only [Act.put, List.setIfInBounds_toArray, List.set_cons_zero, List.set_cons_succ, List.getElem_toArray, List.getElem_cons_succ, List.getElem_cons_zero]
      refine wpAnyH_take (i := 13) (v := ?_) rfl (by kernel_rfl) (by kernel_rfl) (by kernel_rfl) (fun _ _ _ h => h) (Or.inl ⟨by rfl, ?_⟩) (by assumption) ?_
      rotate_left
      · (intro w hSw; (try dsimp only at hSw); go_simp; try with_reducible rfl)
      try simp only [Act.put, List.setIfInBounds_toArray, List.set_cons_zero, List.set_cons_succ, List.getElem_toArray, List.getElem_cons_succ, List.getElem_cons_zero]
      refine wpAnyH_take (i := 14) (v := ?_) rfl (by kernel_rfl) (by kernel_rfl) (by kernel_rfl) (fun _ _ _ h => h) (Or.inl ⟨by rfl, ?_⟩) (by assumption) ?_
      rotate_left
      · (intro w hSw; (try dsimp only at hSw); go_simp; try with_reducible rfl)
      try simp only [Act.put, List.setIfInBounds_toArray, List.set_cons_zero, List.set_cons_succ, List.getElem_toArray, List.getElem_cons_succ, List.getElem_cons_zero]
      refine wpAnyH_take (i := 15) (v := ?_) rfl (by kernel_rfl) (by kernel_rfl) (by kernel_rfl) (fun _ _ _ h => h) (Or.inl ⟨by rfl, ?_⟩) (by assumption) ?_
      rotate_left
      · (intro w hSw; (try dsimp only at hSw); go_simp; try with_reducible rfl)
      try simp only [Act.put, List.setIfInBounds_toArray, List.set_cons_zero, List.set_cons_succ, List.getElem_toArray, List.getElem_cons_succ, List.getElem_cons_zero]
      refine wpAnyH_take (i := 16) (v := ?_) rfl (by kernel_rfl) (by kernel_rfl) (by kernel_rfl) (fun _ _ _ h => h) (Or.inl ⟨by rfl, ?_⟩) (by assumption) ?_
      rotate_left
      · (intro w hSw; (try dsimp only at hSw); go_simp; try with_reducible rfl)
      try simp only [Act.put, List.setIfInBounds_toArray, List.set_cons_zero, List.set_cons_succ, List.getElem_toArray, List.getElem_cons_succ, List.getElem_cons_zero]
      refine wpAnyH_take (i := 17) (v := undef) rfl (by kernel_rfl) (by kernel_rfl) (by kernel_rfl) (fun _ _ _ h => h) (Or.inr ⟨by rfl, rfl⟩) (by assumption) ?_
      try simp only [Act.put, List.setIfInBounds_toArray, List.set_cons_zero, List.set_cons_succ, List.getElem_toArray, List.getElem_cons_succ, List.getElem_cons_zero]
      refine wpAnyH_take (i := 18) (v := undef) rfl (by kernel_rfl) (by kernel_rfl) (by kernel_rfl) (fun _ _ _ h => h) (Or.inr ⟨by rfl, rfl⟩) (by assumption) ?_
      try simp only [Act.put, List.setIfInBounds_toArray, List.set_cons_zero, List.set_cons_succ, List.getElem_toArray, List.getElem_cons_succ, List.getElem_cons_zero]
      refine wpAnyH_take (i := 19) (v := undef) rfl (by kernel_rfl) (by kernel_rfl) (by kernel_rfl) (fun _ _ _ h => h) (Or.inr ⟨by rfl, rfl⟩) (by assumption) ?_
      try simp only [Act.put, List.setIfInBounds_toArray, List.set_cons_zero, List.set_cons_succ, List.getElem_toArray, List.getElem_cons_succ, List.getElem_cons_zero]
      refine wpAnyH_take (i := 20) (v := ?_) rfl (by kernel_rfl) (by kernel_rfl) (by kernel_rfl) (fun _ _ _ h => h) (Or.inl ⟨by rfl, ?_⟩) (by assumption) ?_
      rotate_left
      · (intro w hSw; (try dsimp only at hSw); go_simp; try with_reducible rfl)
      try simp only [Act.put, List.setIfInBounds_toArray, List.set_cons_zero, List.set_cons_succ, List.getElem_toArray, List.getElem_cons_succ, List.getElem_cons_zero]
      refine wpAnyH_take (i := 21) (v := ?_) rfl (by kernel_rfl) (by kernel_rfl) (by kernel_rfl) (fun _ _ _ h => h) (Or.inl ⟨by rfl, ?_⟩) (by assumption) ?_
      rotate_left
      · (intro w hSw; (try dsimp only at hSw); go_simp; try with_reducible rfl)
      try simp only [Act.put, List.setIfInBounds_toArray, List.set_cons_zero, List.set_cons_succ, List.getElem_toArray, List.getElem_cons_succ, List.getElem_cons_zero]
      refine wpAnyH_take (i := 22) (v := ?_) rfl (by kernel_rfl) (by kernel_rfl) (by kernel_rfl) (fun _ _ _ h => h) (Or.inl ⟨by rfl, ?_⟩) (by assumption) ?_
      rotate_left
      · (intro w hSw; (try dsimp only at hSw); go_simp; try with_reducible rfl)
      try simp only [Act.put, List.setIfInBounds_toArray, List.set_cons_zero, List.set_cons_succ, List.getElem_toArray, List.getElem_cons_succ, List.getElem_cons_zero]
      refine wpAnyH_take (i := 23) (v := ?_) rfl (by kernel_rfl) (by kernel_rfl) (by kernel_rfl) (fun _ _ _ h => h) (Or.inl ⟨by rfl, ?_⟩) (by assumption) ?_
      rotate_left
      · (intro w hSw; (try dsimp only at hSw); go_simp; try with_reducible rfl)
      try simp only [Act.put, List.setIfInBounds_toArray, List.set_cons_zero, List.set_cons_succ, List.getElem_toArray, List.getElem_cons_succ, List.getElem_cons_zero]
      refine wpAnyH_take (i := 25) (v := ?_) rfl (by kernel_rfl) (by kernel_rfl) (by kernel_rfl) (fun _ _ _ h => h) (Or.inl ⟨by rfl, ?_⟩) (by assumption) ?_
      rotate_left
      · (intro w hSw; (try dsimp only at hSw); go_simp; try with_reducible rfl)
      try simp only [Act.put, List.setIfInBounds_toArray, List.set_cons_zero, List.set_cons_succ, List.getElem_toArray, List.getElem_cons_succ, List.getElem_cons_zero]
      refine wpAnyH_take (i := 26) (v := ?_) rfl (by kernel_rfl) (by kernel_rfl) (by kernel_rfl) (fun _ _ _ h => h) (Or.inl ⟨by rfl, ?_⟩) (by assumption) ?_
      rotate_left
      · (intro w hSw; (try dsimp only at hSw); go_simp; try with_reducible rfl)
      try simp only [Act.put, List.setIfInBounds_toArray, List.set_cons_zero, List.set_cons_succ, List.getElem_toArray, List.getElem_cons_succ, List.getElem_cons_zero]
      refine wpAnyH_ready (rs := [24]) (by kernel_rfl) (by simp) ?_
      refine AllReadyH.cons rfl (fun K hK => ?_) AllReadyH.nil
      go_simp
      go_at_call 13; refine (K13.out _ ?_).mono ?_; (first | exact HBA.out | exact HBA.out.drew); rintro e11 w11 ⟨rfl, hb11⟩; have HBB := Lib.hid (HBA.out.trans ((show Below _ _ w11 from hb11).mono HBA.out.size)); have c17b := (HBB.out.cell (p := ⟨w9.heap.size, 0, none⟩) (by show w9.heap.size < _; omega)).trans c17; clear hb11
      refine hK.out _ _ ?_ (fun hHeld => ?_)
      · exact c17b
      clear hK K
      try simp only [Act.put, List.setIfInBounds_toArray, List.set_cons_zero, List.set_cons_succ, List.getElem_toArray, List.getElem_cons_succ, List.getElem_cons_zero]
      refine wpAnyH_take (i := 27) (v := ?_) rfl (by kernel_rfl) (by kernel_rfl) (by kernel_rfl) (fun _ _ _ h => h) (Or.inl ⟨by rfl, ?_⟩) (by assumption) ?_
      rotate_left
      · (intro w hSw; (try dsimp only at hSw); go_simp; try with_reducible rfl)
      try simp only [Act.put, List.setIfInBounds_toArray, List.set_cons_zero, List.set_cons_succ, List.getElem_toArray, List.getElem_cons_succ, List.getElem_cons_zero]
      refine wpAnyH_take (i := 28) (v := ?_) rfl (by kernel_rfl) (by kernel_rfl) (by kernel_rfl) (fun _ _ _ h => h) (Or.inl ⟨by rfl, ?_⟩) (by assumption) ?_
      rotate_left
      · (intro w hSw; (try dsimp only at hSw); go_simp; try with_reducible rfl)
      try simp only [Act.put, List.setIfInBounds_toArray, List.set_cons_zero, List.set_cons_succ, List.getElem_toArray, List.getElem_cons_succ, List.getElem_cons_zero]
      refine wpAnyH_done (by kernel_rfl) ?_ _
      go_wp2_with fail
      go_meet
      case rel => exact ⟨rfl, HBB.out⟩
    · have hr8 := HR8.out
      rw [if_neg hcode] at hr8
      subst hr8
      have qz : (code == 0) = false := by simpa using hcode
      have qzn : (code != 0) = true := by simpa using hcode
      have qcc : (code == code) = true := by simp
      refine wp_calm ?_
      refine wp_region_held_drew (S := fun w' => w'.cell? ⟨w9.heap.size, 0, none⟩ = some (.slice A9 rows.length c9)) (by kernel_rfl) ?_ (fun hHeld => ?_)
      · exact c17
      refine wpAnyH_take (i := 0) (v := ?_) rfl (by kernel_rfl) (by kernel_rfl) (by kernel_rfl) (fun _ _ _ h => h) (Or.inl ⟨by rfl, ?_⟩) (by assumption) ?_
      rotate_left
      · (intro w hSw; (try dsimp only at hSw); go_simp; try with_reducible rfl)
      try simp only [Act.put, List.setIfInBounds_toArray, List.set_cons_zero, List.set_cons_succ, List.getElem_toArray, List.getElem_cons_succ, List.getElem_cons_zero]
      refine wpAnyH_take (i := 1) (v := ?_) rfl (by kernel_rfl) (by kernel_rfl) (by kernel_rfl) (fun _ _ _ h => h) (Or.inl ⟨by rfl, ?_⟩) (by assumption) ?_
      rotate_left
      · (intro w hSw; (try dsimp only at hSw); go_simp; try with_reducible rfl)
      try simp only [Act.put, List.setIfInBounds_toArray, List.set_cons_zero, List.set_cons_succ, List.getElem_toArray, List.getElem_cons_succ, List.getElem_cons_zero]
      refine wpAnyH_take (i := 2) (v := ?_) rfl (by kernel_rfl) (by kernel_rfl) (by kernel_rfl) (fun _ _ _ h => h) (Or.inl ⟨by rfl, ?_⟩) (by assumption) ?_
      rotate_left
      · (intro w hSw; (try dsimp only at hSw); go_simp; try with_reducible rfl)
      try simp only [Act.put, List.setIfInBounds_toArray, List.set_cons_zero, List.set_cons_succ, List.getElem_toArray, List.getElem_cons_succ, List.getElem_cons_zero]
      refine wpAnyH_take (i := 3) (v := ?_) rfl (by kernel_rfl) (by kernel_rfl) (by kernel_rfl) (fun _ _ _ h => h) (Or.inl ⟨by rfl, ?_⟩) (by assumption) ?_
      rotate_left
      · (intro w hSw; (try dsimp only at hSw); go_simp; try with_reducible rfl)
      try simp only [Act.put, List.setIfInBounds_toArray, List.set_cons_zero, List.set_cons_succ, List.getElem_toArray, List.getElem_cons_succ, List.getElem_cons_zero]
      refine wpAnyH_take (i := 4) (v := ?_) rfl (by kernel_rfl) (by kernel_rfl) (by kernel_rfl) (fun _ _ _ h => h) (Or.inl ⟨by rfl, ?_⟩) (by assumption) ?_
      rotate_left
      · (intro w hSw; (try dsimp only at hSw); go_simp; try with_reducible rfl)
      try simp only [Act.put, List.setIfInBounds_toArray, List.set_cons_zero, List.set_cons_succ, List.getElem_toArray, List.getElem_cons_succ, List.getElem_cons_zero]
      refine wpAnyH_take (i := 5) (v := ?_) rfl (by kernel_rfl) (by kernel_rfl) (by kernel_rfl) (fun _ _ _ h => h) (Or.inl ⟨by rfl, ?_⟩) (by assumption) ?_
      rotate_left
      · (intro w hSw; (try dsimp only at hSw); go_simp; try with_reducible rfl)
      try simp only [Act.put, List.setIfInBounds_toArray, List.set_cons_zero, List.set_cons_succ, List.getElem_toArray, List.getElem_cons_succ, List.getElem_cons_zero]
      refine wpAnyH_take (i := 6) (v := ?_) rfl (by kernel_rfl) (by kernel_rfl) (by kernel_rfl) (fun _ _ _ h => h) (Or.inl ⟨by rfl, ?_⟩) (by assumption) ?_
      rotate_left
      · (intro w hSw; (try dsimp only at hSw); go_simp; try with_reducible rfl)
      try simp only [Act.put, List.setIfInBounds_toArray, List.set_cons_zero, List.set_cons_succ, List.getElem_toArray, List.getElem_cons_succ, List.getElem_cons_zero]
      refine wpAnyH_take (i := 7) (v := undef) rfl (by kernel_rfl) (by kernel_rfl) (by kernel_rfl) (fun _ _ _ h => h) (Or.inr ⟨by rfl, rfl⟩) (by assumption) ?_
      try simp only [Act.put, List.setIfInBounds_toArray, List.set_cons_zero, List.set_cons_succ, List.getElem_toArray, List.getElem_cons_succ, List.getElem_cons_zero]
      refine wpAnyH_take (i := 8) (v := undef) rfl (by kernel_rfl) (by kernel_rfl) (by kernel_rfl) (fun _ _ _ h => h) (Or.inr ⟨by rfl, rfl⟩) (by assumption) ?_
      try simp only [Act.put, List.setIfInBounds_toArray, List.set_cons_zero, List.set_cons_succ, List.getElem_toArray, List.getElem_cons_succ, List.getElem_cons_zero]
      refine wpAnyH_take (i := 9) (v := undef) rfl (by kernel_rfl) (by kernel_rfl) (by kernel_rfl) (fun _ _ _ h => h) (Or.inr ⟨by rfl, rfl⟩) (by assumption) ?_
      try simp only [Act.put, List.setIfInBounds_toArray, List.set_cons_zero, List.set_cons_succ, List.getElem_toArray, List.getElem_cons_succ, List.getElem_cons_zero]
      refine wpAnyH_take (i := 10) (v := undef) rfl (by kernel_rfl) (by kernel_rfl) (by kernel_rfl) (fun _ _ _ h => h) (Or.inr ⟨by rfl, rfl⟩) (by assumption) ?_
      try simp only [Act.put, List.setIfInBounds_toArray, List.set_cons_zero, List.set_cons_succ, List.getElem_toArray, List.getElem_cons_succ, List.getElem_cons_zero]
      refine wpAnyH_take (i := 11) (v := ?_) rfl (by kernel_rfl) (by kernel_rfl) (by kernel_rfl) (fun _ _ _ h => h) (Or.inl ⟨by rfl, ?_⟩) (by assumption) ?_
      rotate_left
      · (intro w hSw; (try dsimp only at hSw); go_simp; try with_reducible rfl)
      try simp only [Act.put, List.setIfInBounds_toArray, List.set_cons_zero, List.set_cons_succ, List.getElem_toArray, List.getElem_cons_succ, List.getElem_cons_zero]
      refine wpAnyH_take (i := 12) (v := ?_) rfl (by kernel_rfl) (by kernel_rfl) (by kernel_rfl) (fun _ _ _ h => h) (Or.inl ⟨by rfl, ?_⟩) (by assumption) ?_
      rotate_left
      · (intro w hSw; (try dsimp only at hSw); go_simp; try with_reducible rfl)
      try simp only [Act.put, List.setIfInBounds_toArray, List.set_cons_zero, List.set_cons_succ, List.getElem_toArray, List.getElem_cons_succ, List.getElem_cons_zero]
      refine wpAnyH_take (i := 13) (v := ?_) rfl (by kernel_rfl) (by kernel_rfl) (by kernel_rfl) (fun _ _ _ h => h) (Or.inl ⟨by rfl, ?_⟩) (by assumption) ?_
      rotate_left
      · (intro w hSw; (try dsimp only at hSw); go_simp; try with_reducible rfl)
      try simp only [Act.put, List.setIfInBounds_toArray, List.set_cons_zero, List.set_cons_succ, List.getElem_toArray, List.getElem_cons_succ, List.getElem_cons_zero]
      refine wpAnyH_take (i := 14) (v := ?_) rfl (by kernel_rfl) (by kernel_rfl) (by kernel_rfl) (fun _ _ _ h => h) (Or.inl ⟨by rfl, ?_⟩) (by assumption) ?_
      rotate_left
      · (intro w hSw; (try dsimp only at hSw); go_simp; try with_reducible rfl)
      try simp only [Act.put, List.setIfInBounds_toArray, List.set_cons_zero, List.set_cons_succ, List.getElem_toArray, List.getElem_cons_succ, List.getElem_cons_zero]
      refine wpAnyH_take (i := 15) (v := ?_) rfl (by kernel_rfl) (by kernel_rfl) (by kernel_rfl) (fun _ _ _ h => h) (Or.inl ⟨by rfl, ?_⟩) (by assumption) ?_
      rotate_left
      · (intro w hSw; (try dsimp only at hSw); go_simp; try with_reducible rfl)
      try simp only [Act.put, List.setIfInBounds_toArray, List.set_cons_zero, List.set_cons_succ, List.getElem_toArray, List.getElem_cons_succ, List.getElem_cons_zero]
      refine wpAnyH_take (i := 16) (v := ?_) rfl (by kernel_rfl) (by kernel_rfl) (by kernel_rfl) (fun _ _ _ h => h) (Or.inl ⟨by rfl, ?_⟩) (by assumption) ?_
      rotate_left
      · (intro w hSw; (try dsimp only at hSw); go_simp; try with_reducible rfl)
      try simp only [Act.put, List.setIfInBounds_toArray, List.set_cons_zero, List.set_cons_succ, List.getElem_toArray, List.getElem_cons_succ, List.getElem_cons_zero]
      refine wpAnyH_take (i := 17) (v := ?_) rfl (by kernel_rfl) (by kernel_rfl) (by kernel_rfl) (fun _ _ _ h => h) (Or.inl ⟨by rfl, ?_⟩) (by assumption) ?_
      rotate_left
      · (intro w hSw; (try dsimp only at hSw); go_simp; try with_reducible rfl)
      try simp only [Act.put, List.setIfInBounds_toArray, List.set_cons_zero, List.set_cons_succ, List.getElem_toArray, List.getElem_cons_succ, List.getElem_cons_zero]
      refine wpAnyH_take (i := 18) (v := ?_) rfl (by kernel_rfl) (by kernel_rfl) (by kernel_rfl) (fun _ _ _ h => h) (Or.inl ⟨by rfl, ?_⟩) (by assumption) ?_
      rotate_left
      · (intro w hSw; (try dsimp only at hSw); go_simp; try with_reducible rfl)
      try simp only [Act.put, List.setIfInBounds_toArray, List.set_cons_zero, List.set_cons_succ, List.getElem_toArray, List.getElem_cons_succ, List.getElem_cons_zero]
      refine wpAnyH_take (i := 19) (v := ?_) rfl (by kernel_rfl) (by kernel_rfl) (by kernel_rfl) (fun _ _ _ h => h) (Or.inl ⟨by rfl, ?_⟩) (by assumption) ?_
      rotate_left
      · (intro w hSw; (try dsimp only at hSw); go_simp; try with_reducible rfl)
      try simp only [Act.put, List.setIfInBounds_toArray, List.set_cons_zero, List.set_cons_succ, List.getElem_toArray, List.getElem_cons_succ, List.getElem_cons_zero]
      refine wpAnyH_take (i := 20) (v := ?_) rfl (by kernel_rfl) (by kernel_rfl) (by kernel_rfl) (fun _ _ _ h => h) (Or.inl ⟨by rfl, ?_⟩) (by assumption) ?_
      rotate_left
      · (intro w hSw; (try dsimp only at hSw); go_simp; try with_reducible rfl)
      try simp only [Act.put, List.setIfInBounds_toArray, List.set_cons_zero, List.set_cons_succ, List.getElem_toArray, List.getElem_cons_succ, List.getElem_cons_zero]
      refine wpAnyH_take (i := 21) (v := ?_) rfl (by kernel_rfl) (by kernel_rfl) (by kernel_rfl) (fun _ _ _ h => h) (Or.inl ⟨by rfl, ?_⟩) (by assumption) ?_
      rotate_left
      · (intro w hSw; (try dsimp only at hSw); go_simp; try with_reducible rfl)
      try simp only [Act.put, List.setIfInBounds_toArray, List.set_cons_zero, List.set_cons_succ, List.getElem_toArray, List.getElem_cons_succ, List.getElem_cons_zero]
      refine wpAnyH_take (i := 22) (v := ?_) rfl (by kernel_rfl) (by kernel_rfl) (by kernel_rfl) (fun _ _ _ h => h) (Or.inl ⟨by rfl, ?_⟩) (by assumption) ?_
      rotate_left
      · (intro w hSw; (try dsimp only at hSw); go_simp; try with_reducible rfl)
      try simp only [Act.put, List.setIfInBounds_toArray, List.set_cons_zero, List.set_cons_succ, List.getElem_toArray, List.getElem_cons_succ, List.getElem_cons_zero]
      refine wpAnyH_take (i := 23) (v := ?_) rfl (by kernel_rfl) (by kernel_rfl) (by kernel_rfl) (fun _ _ _ h => h) (Or.inl ⟨by rfl, ?_⟩) (by assumption) ?_
      rotate_left
      · (intro w hSw; (try dsimp only at hSw); go_simp; try with_reducible rfl)
      try simp only [Act.put, List.setIfInBounds_toArray, List.set_cons_zero, List.set_cons_succ, List.getElem_toArray, List.getElem_cons_succ, List.getElem_cons_zero]
      refine wpAnyH_take (i := 25) (v := ?_) rfl (by kernel_rfl) (by kernel_rfl) (by kernel_rfl) (fun _ _ _ h => h) (Or.inl ⟨by rfl, ?_⟩) (by assumption) ?_
      rotate_left
      · (intro w hSw; (try dsimp only at hSw); go_simp; try with_reducible rfl)
      try simp only [Act.put, List.setIfInBounds_toArray, List.set_cons_zero, List.set_cons_succ, List.getElem_toArray, List.getElem_cons_succ, List.getElem_cons_zero]
      refine wpAnyH_take (i := 26) (v := ?_) rfl (by kernel_rfl) (by kernel_rfl) (by kernel_rfl) (fun _ _ _ h => h) (Or.inl ⟨by rfl, ?_⟩) (by assumption) ?_
      rotate_left
      · (intro w hSw; (try dsimp only at hSw); go_simp; try with_reducible rfl)
      try simp only [Act.put, List.setIfInBounds_toArray, List.set_cons_zero, List.set_cons_succ, List.getElem_toArray, List.getElem_cons_succ, List.getElem_cons_zero]
      refine wpAnyH_ready (rs := [24]) (by kernel_rfl) (by simp) ?_
      refine AllReadyH.cons rfl (fun K hK => ?_) AllReadyH.nil
      go_simp
      go_at_call 13; refine (K13.out _ ?_).mono ?_; (first | exact Below.refl _ _ | exact (Below.refl _ _).drew); rintro e11 w11 ⟨rfl, hb11⟩; have HBB := Lib.hid (show Below W9.heap.size W9 w11 from (Below.refl _ _).drew.trans hb11); have c17b := (HBB.out.cell (p := ⟨w9.heap.size, 0, none⟩) (by show w9.heap.size < _; omega)).trans c17; clear hb11
      refine hK.out _ _ ?_ (fun hHeld => ?_)
      · exact c17b
      clear hK K
      try simp only [Act.put, List.setIfInBounds_toArray, List.set_cons_zero, List.set_cons_succ, List.getElem_toArray, List.getElem_cons_succ, List.getElem_cons_zero]
      refine wpAnyH_take (i := 27) (v := ?_) rfl (by kernel_rfl) (by kernel_rfl) (by kernel_rfl) (fun _ _ _ h => h) (Or.inl ⟨by rfl, ?_⟩) (by assumption) ?_
      rotate_left
      · (intro w hSw; (try dsimp only at hSw); go_simp; try with_reducible rfl)
      try simp only [Act.put, List.setIfInBounds_toArray, List.set_cons_zero, List.set_cons_succ, List.getElem_toArray, List.getElem_cons_succ, List.getElem_cons_zero]
      refine wpAnyH_take (i := 28) (v := ?_) rfl (by kernel_rfl) (by kernel_rfl) (by kernel_rfl) (fun _ _ _ h => h) (Or.inl ⟨by rfl, ?_⟩) (by assumption) ?_
      rotate_left
      · (intro w hSw; (try dsimp only at hSw); go_simp; try with_reducible rfl)
      try simp only [Act.put, List.setIfInBounds_toArray, List.set_cons_zero, List.set_cons_succ, List.getElem_toArray, List.getElem_cons_succ, List.getElem_cons_zero]
      refine wpAnyH_done (by kernel_rfl) ?_ _
      go_wp2_with fail
      go_meet
      case rel => exact ⟨rfl, HBB.out⟩
  case rest =>
    obtain ⟨h116, hbc⟩ := hcut
    subst h116
    have HBC := Lib.hid hbc
    have hsc := hbc.size
    clear hbc
    go_wp2_with (go_at_call 19; refine (frame_All_maker A0 l0.length c0 _).mono ?_; rintro e w20 ⟨rfl, rfl⟩)
    obtain ⟨V0, hV0⟩ : ∃ V0, (wc.alloc (.cells #[.int .i64 0] 3)).alloc (.cells #[.slice A0 l0.length c0] 22) = V0 := ⟨_, rfl⟩
    rw [hV0]
    have hsV : V0.heap.size = wc.heap.size + 2 := by rw [← hV0]; simp
    have hbV : Below wc.heap.size wc V0 := by rw [← hV0]; exact ((Below.refl _ wc).alloc (Nat.le_refl _) _).alloc (by simp) _
    have B19 : Boxed V0 wc.heap.size 3 (.int .i64 0) := by rw [← hV0]; exact (Boxed.new wc 3 _).alloc _
    have B20 : Boxed V0 (wc.heap.size + 1) 22 (.slice A0 l0.length c0) := by
      rw [← hV0]; have h := Boxed.new (wc.alloc (.cells #[.int .i64 0] 3)) 22 (.slice A0 l0.length c0); rw [World.size_alloc] at h; exact h
    have h9V : Below W9.heap.size W9 V0 := HBC.out.trans (hbV.mono hsc)
    have B17V : Boxed V0 w9.heap.size 30 (.slice A9 rows.length c9) := (h9V.block _ (by omega)).trans HB17.out
    have B4V : Boxed V0 w.heap.size 4 (.bool false) := (h9V.block _ (by omega)).trans HBR9.out
    have hbw : Below w.heap.size w V0 := HBW.out.trans (h9V.mono HBW.out.size)
    have hws := hbw.size
    obtain ⟨S, hS⟩ : ∃ S : Nat → Prop, S = fun b => b ≠ wc.heap.size ∧ b < V0.heap.size := ⟨_, rfl⟩
    have hSlt : ∀ b, S b → b < V0.heap.size := fun b hb => by rw [hS] at hb; exact hb.2
    have hSn : ¬ S wc.heap.size := fun hb => by rw [hS] at hb; exact hb.1 rfl
    have hSy : ∀ b, b < V0.heap.size → b ≠ wc.heap.size → S b := fun b h1 h2 => by rw [hS]; exact ⟨h2, h1⟩
    have hSlt0 := hSlt
    clear hS hV0
    have seq := all1_told 7 (by omega) S (wc.heap.size + 1) A0 c0 l0 rows V0 V0.heap.size (Nat.le_refl _) (hSy _ (by omega) (by omega)) hSlt B20.cell hc0
      (fun V hV => Kd.Heap.C (Kd.heap_int _) (fun k hk => (hV.2 k (hSy k (by omega) (by omega))).trans (hbw.block k hk)) HR0.out) HB0.out (by omega) (by rw [HROWS.out])
    refine (wpIn_wide (n := 8)).1 ?_
    refine range_told rfl (by omega) (gf := 28) (lb := #[.pointer (some ⟨wc.heap.size + 1, 0, none⟩)]) rfl trivial (enters_of Try.func28 (by kernel_rfl) rfl)
      seq KeepS.trans (fun W l o o' hl h _ _ => KeepS.put W l o o' (fun hb => by have := hSlt l hb; omega) h) (Below.refl _ _) (fun _ => rfl) (fun pre x W l o o' h1 h2 h3 => TellsR.put pre x W l o o' h1 h2 h3)
      (fun pre V => KeepS S V0 V ∧ Boxed V wc.heap.size 3 (.int .i64 pre.length) ∧ pre.map Prod.snd <+: rows ∧ Below w.heap.size w V)
      ?hI ?h0 ?a1 ?assign ?body ?done
    case assign =>
      intro l x W K hK
      gi_wp2
      exact hK
    case hI =>
      rintro s X Y row ⟨h1, h2, h3, h4⟩ hg hr
      exact ⟨h1.grown hSlt hg (fun r e hb => by have := (hr r e).1; have := hSlt r hb; omega), boxed_own _ _ (fun _ : Unit => _) () X Y row h2 hg (fun r e => (hr r e).2), h3, h4.grown hg (Nat.le_trans hbw.size h1.1) (fun k e => by have := (hr k e).1; omega)⟩
    case h0 => exact ⟨KeepS.refl _ _, B19, by simp, hbw⟩
    case body =>
      rintro lp pre ⟨xv, row⟩ V ⟨hk, b9, hpre, hbl⟩ hT
      obtain ⟨j, hj⟩ : ∃ j, pre.length = j := ⟨_, rfl⟩
      rw [hj] at b9
      have hjr : rows[j]? = some row := by rw [← hj]; exact hT.2
      have hpre2 := prefix_get hpre (x := (xv, row)) hT.2
      obtain ⟨hjl, hje⟩ := List.getElem?_eq_some_iff.1 hjr
      obtain ⟨Ax, cx, hxv, hcx, hCx⟩ := Kd.R_reads hT.1
      dsimp only at hxv
      subst hxv
      have hCr : (Kd.slice 5 (Kd.int .u8)).C V A9 rows.length rows := Kd.Heap.C (Kd.heap_slice _ (Kd.heap_int _)) (fun k hk' => (hk.2 k (hSy k (by omega) (by omega))).trans (h9V.block k hk')) HC9W.out
      obtain ⟨ad, A2', c2', hA, hcell, hc2', hC2'⟩ := row_full hCr j hjl
      rw [hje] at hcell hc2' hC2'
      have hrowl := (HRR.out row (List.mem_of_getElem? hjr)).1
      obtain ⟨ks2, hks2⟩ := (same_yes row row (by omega)).rounds
      rw [decide_eq_true rfl] at hks2
      have KS2 := Lib.hid hks2
      have b17 := hk.boxed (hSy _ (by omega) (by omega)) B17V
      have HK := Lib.hid hk
      have HP2 := Lib.hid hpre2
      have HBL := Lib.hid hbl
      have HC2 := Lib.hid hC2'
      have HCX := Lib.hid hCx
      have Hj := Lib.hid hj
      have HSn := Lib.hid hSn
      have H9 := Lib.hid b9
      obtain ⟨m, hm⟩ : ∃ m, row.length = m := ⟨_, rfl⟩
      have b0 : decide ((rows.length : Int) ≤ (j : Int)) = false := decide_eq_false (by omega)
      have b1 : (j : Int) < (rows.length : Int) := by omega
      have c19 := b9.cell
      have f19 := b9.frozen
      have c17v := b17.cell
      subst hA
      clear hks2 hk hpre hpre2 hbl hT hCx hC2' hCr hSy hSlt hSn seq B19 B20 B17V B4V hj b17 b9 hm hjr hje
      gi_wp2_with (refine ⟨trivial, ?_⟩; gi_at_call 11; refine (CallsIn.inRound lp (callsIn_wide.2 (embrasureref01_Same.calls ks2 Ax cx row A2' c2' row true _ HCX.out hcx HC2.out hc2' KS2.out))).mono ?_; rintro e w5 ⟨rfl, hd5⟩; have HD5 := Lib.hid hd5.below; have B5 := Lib.hid (Boxed.below H9.out hd5.below); have c19a := B5.out.cell; have f19a := B5.out.frozen; clear hd5)
      have hV0s := HK.out.1
      have hbl5 : Below w.heap.size V w5 := HD5.out.mono (by omega)
      have hkS : KeepS S V w5 := ⟨HD5.out.size, fun b hb => HD5.out.block b (by have := hSlt0 b hb; omega)⟩
      refine ⟨(keepsOthers_below HD5.out).trans (KeepsOthers.setCell _ _ _), hkS.trans (KeepS.setCell HSn.out _), (HK.out.trans hkS).trans (KeepS.setCell HSn.out _), ?_, by simpa using HP2.out, (HBL.out.trans hbl5).setCell (p := ⟨wc.heap.size, 0, none⟩) (by show w.heap.size ≤ wc.heap.size; omega) _⟩
      rw [Hj.out]
      exact B5.out.set _
    case done =>
      rintro D xs W hD hxs ⟨hk, b9, hpre, hbl⟩ hK
      have hlen : xs.length = rows.length := by rw [← hxs, List.length_map]
      rw [hlen] at b9
      have b17 := hk.boxed (hSy _ (by omega) (by omega)) B17V
      have b4 := hk.boxed (hSy _ (by omega) (by omega)) B4V
      have qr : ((rows.length : Int) == (rows.length : Int)) = true := by simp
      have qr' : (rows.length == rows.length) = true := by simp
      have HK2 := Lib.hid hK
      have HBL := Lib.hid hbl
      have H4 := Lib.hid b4
      have c19 := b9.cell
      have c17v := b17.cell
      have c4 := b4.cell
      have f4 := b4.frozen
      clear hk hbl hK seq B19 B20 B17V B4V hSy hSn hSlt b17 b9 b4 hpre hxs hlen
      go_wp2
      have hK' := (KeepsOthers.setCell W ⟨w.heap.size, 0, none⟩ (.bool true)).same D _ HK2.out rfl
      refine ⟨by simp, .inl ⟨_, _, rfl, run_takeDeferred hK', ?_⟩⟩
      have hc5 := ((H4.out.set (.bool true)).kept (grownBy_putObj' _ D (.deferred none)) (fun e => by injection e; omega)).cell
      refine ⟨.bool true, ?_, rfl, (HBL.out.setCell (p := ⟨w.heap.size, 0, none⟩) (Nat.le_refl _) _).trans (belowK_b (w := w) (Nat.le_refl _) _ D _ _ (by omega) hK' rfl rfl)⟩
      simp [results, Try.f5, go_sem, hc5]
theorem gets_early (A0 : Option Addr) (c0 : Nat) (l0 : List Int) (A1 : Option Addr) (c1 : Nat) (l1 : List Int) (w : World) (h : 4000 < l0.length ∨ 4000 < l1.length) :
    Calls Try.prog 5 #[.slice A0 l0.length c0, .slice A1 l1.length c1] w fun e w' => e = .returned (.bool true) ∧ Below w.heap.size w w' := by
  obtain ⟨ka, hka⟩ := awake_yes.rounds
  have Ka := Lib.hid hka
  clear hka
  have BR0 := Boxed.new w 4 (.bool false)
  have hbr : Below w.heap.size w (w.alloc (.cells #[.bool false] 4)) := (Below.refl _ _).alloc (Nat.le_refl _) _
  have HBR := Lib.hid hbr
  have HBR0 := Lib.hid BR0
  clear BR0 hbr
  by_cases h1 : 4000 < l0.length
  · have g1 : decide (4000 < (l0.length : Int)) = true := decide_eq_true (by omega)
    go_enter Try.func5, Try.ntmps5
    go_wp2_with (go_at_call 8; refine (embrasurelaw02_awake.calls ka true _ Ka.out).mono ?_; rintro e w1 ⟨rfl, hb1⟩; have B1 := Lib.hid (Boxed.below HBR0.out hb1); have HB1 := Lib.hid (HBR.out.trans (hb1.mono HBR.out.size)); have c4 := B1.out.cell; have f4 := B1.out.frozen; clear hb1)
    have hc5 := (B1.out.set (.bool true)).cell
    refine bodyPost_ret (v := .bool true) (by simp [results, Try.results5, go_sem, hc5]) rfl ⟨rfl, HB1.out.setCell (p := ⟨w.heap.size, 0, none⟩) (Nat.le_refl _) _⟩
  · have g1 : decide (4000 < (l0.length : Int)) = false := decide_eq_false (by omega)
    have g2 : decide (4000 < (l1.length : Int)) = true := decide_eq_true (by omega)
    clear h
    go_enter Try.func5, Try.ntmps5
    go_wp2_with (go_at_call 8; refine (embrasurelaw02_awake.calls ka true _ Ka.out).mono ?_; rintro e w1 ⟨rfl, hb1⟩; have B1 := Lib.hid (Boxed.below HBR0.out hb1); have HB1 := Lib.hid (HBR.out.trans (hb1.mono HBR.out.size)); have c4 := B1.out.cell; have f4 := B1.out.frozen; clear hb1)
    have hc5 := (B1.out.set (.bool true)).cell
    refine bodyPost_ret (v := .bool true) (by simp [results, Try.results5, go_sem, hc5]) rfl ⟨rfl, HB1.out.setCell (p := ⟨w.heap.size, 0, none⟩) (Nat.le_refl _) _⟩
theorem gets_row (A0 : Option Addr) (c0 : Nat) (l0 : List Int) (A1 : Option Addr) (c1 : Nat) (l1 : List Int) (w : World)
    (hr0 : Kd.C (Kd.int .u8) w A0 l0.length l0) (hc0 : l0.length ≤ c0) (hy0 : l0.length * 1 ≤ 140737488351232) (hw0 : ∀ b ∈ l0, (Lit.int .u8 b).wf = true)
    (hr1 : Kd.C (Kd.int .u8) w A1 l1.length l1) (hc1 : l1.length ≤ c1) (hy1 : l1.length * 1 ≤ 140737488351232) (hw1 : ∀ b ∈ l1, (Lit.int .u8 b).wf = true) :
    Calls Try.prog 5 #[.slice A0 l0.length c0, .slice A1 l1.length c1] w fun e w' => e = .returned (.bool true) ∧ Below w.heap.size w w' := by
  by_cases h : l0.length ≤ 4000 ∧ l1.length ≤ 4000
  · exact gets_in A0 c0 l0 A1 c1 l1 w hr0 hc0 (fun b hb => wf_bd (hw0 b hb) (by decide) (by decide)) h.1 hr1 hc1 (fun b hb => wf_bd (hw1 b hb) (by decide) (by decide)) h.2
  · exact gets_early A0 c0 l0 A1 c1 l1 w (by omega)
end Go.Proofs.Ytcngadkcnnkimaa.Fr
