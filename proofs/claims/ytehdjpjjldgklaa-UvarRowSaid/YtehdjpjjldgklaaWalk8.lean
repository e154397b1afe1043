/-
  UvarRow: the walk of the law: whatever the numbers, and the bytes behind: it returns true, and nothing that lay has turned.
-/
import Derived.Test.YtehdjpjjldgklaaWalk7
import Derived.Deep.Cut
import Derived.Deep.RegionLaw
import Derived.Deep.AppendLies
namespace Go.Proofs.Ytehdjpjjldgklaa.Uv
open Go.RowKit Go.Shelf Go.Proofs.Ytehdjpjjldgklaa.H Go.Proofs.YtehdjpjjldgklaaW.PrintWords Go.Proofs.YtehdjpjjldgklaaW.PrintLast Go.Proofs.YtehdjpjjldgklaaW.PrintMore
attribute [local go_sem] Oper.semAt_some

theorem get_snoc (k : Nat) (A : Option Addr) (c : Nat) (l : List Int) (x v g e : Int) (w : World) (h : Kd.C (Kd.int .u8) w A (l.length + 1) (l ++ [x])) (hc : l.length + 1 ≤ c) (hk : uvar_Get.f k (l ++ [x]) = some (v, g, e)) :
    Calls Try.prog 14 #[.slice A (l.length + 1) c] w fun r w' => r = .returned (.tuple #[.int .u64 v, .int .i64 g, .int .i64 e]) ∧ Below w.heap.size w w' := by
  have hl : (l ++ [x]).length = l.length + 1 := by simp
  have := uvar_Get.calls k A c (l ++ [x]) v g e w (by rw [hl]; exact h) (by rw [hl]; exact hc) hk
  rwa [hl] at this
def msk (x : Int) : Int := Go.bits .and .u64 x 9223372036854775807
theorem msk_bd (x : Int) (h0 : 0 ≤ x) (h1 : x ≤ 18446744073709551615) : 0 ≤ msk x ∧ msk x ≤ 9223372036854775807 := by
  unfold msk
  rw [u64_and x _ h0 (by omega) (by omega) (by omega)]
  have : x.toNat &&& (9223372036854775807 : Int).toNat ≤ (9223372036854775807 : Int).toNat := Nat.and_le_right
  have e : (9223372036854775807 : Int).toNat = 9223372036854775807 := rfl
  rw [e] at this ⊢
  omega
theorem posL_snoc : ∀ (vs : List Int) (a v : Int), posL a (vs ++ [v]) = posL a vs ++ [(a + (flat vs).length, v)]
  | [], a, v => by simp [posL, flat]
  | u :: vs, a, v => by
    rw [List.cons_append, posL, posL_snoc vs, posL, List.cons_append, flat_cons, List.length_append]
    congr 4
    omega

set_option maxRecDepth 100000 in
set_option maxHeartbeats 4000000 in
theorem law8_in (A0 : Option Addr) (c0 : Nat) (l0 : List Int) (A1 : Option Addr) (c1 : Nat) (l1 : List Int) (w : World) (hr0 : Kd.C (Kd.int .u64) w A0 l0.length l0) (_hc0 : l0.length ≤ c0) (hb0 : ∀ x ∈ l0, 0 ≤ x ∧ x ≤ 18446744073709551615)
    (hr1 : Kd.C (Kd.int .u8) w A1 l1.length l1) (hc1 : l1.length ≤ c1) (hb1 : ∀ x ∈ l1, 0 ≤ x ∧ x ≤ 255) (h60 : l0.length ≤ 60) (h20 : l1.length ≤ 20) :
    Calls Try.prog 8 #[.slice A0 l0.length c0, .slice A1 l1.length c1] w fun e w' => e = .returned (.bool true) ∧ Below w.heap.size w w' := by
  obtain ⟨ka, hka⟩ := awake_yes.rounds
  obtain ⟨kr, hkr⟩ := (reach_yes l1 hb1 (by omega)).rounds
  obtain ⟨T, hT⟩ : ∃ T, eachL l1 = T := ⟨_, rfl⟩
  have hTl : T.length ≤ 20 := by rw [← hT]; have := eachL_len l1 hb1; omega
  rw [hT] at hkr
  have HT := Lib.hid hT
  clear hT
  have Haw := Lib.hid hka
  have Hkr := Lib.hid hkr
  have Hr0 := Lib.hid hr0
  have Hr1 := Lib.hid hr1
  have Hb0 := Lib.hid hb0
  have Hb1 := Lib.hid hb1
  obtain ⟨vs, hvs⟩ : ∃ vs, l0.map msk = vs := ⟨_, rfl⟩
  have hvl : vs.length = l0.length := by rw [← hvs, List.length_map]
  have hvb : ∀ v ∈ vs, 0 ≤ v ∧ v ≤ 9223372036854775807 := by
    rw [← hvs]; intro v hv
    obtain ⟨x, hx, rfl⟩ := List.mem_map.1 hv
    exact msk_bd x (hb0 x hx).1 (hb0 x hx).2
  have Hvs := Lib.hid hvs
  have Hvl := Lib.hid hvl
  have Hvb := Lib.hid hvb
  clear hka hkr hr0 hr1 hb0 hb1 hvs hvl hvb
  have g1 : decide (60 < (l0.length : Int)) = false := decide_eq_false (by omega)
  have g2 : decide (20 < (l1.length : Int)) = false := decide_eq_false (by omega)
  refine (callsIn_wide (n := 8)).1 ?_
  refine callsIn_of_wp_marks Try.func8 rfl trivial (wpIn_wide.2 ?_) rfl
  simp only [Try.ntmps8, List.size_toArray, List.length_cons, List.length_nil, Nat.reduceAdd, Nat.reduceSub, Array.replicate_succ, Array.replicate_zero, List.push_toArray, List.append_toArray, List.nil_append, List.cons_append]
  go_upto_region 5 with (go_at_call 9; refine (embrasurelaw01_awake.calls _ _ _ Haw.out).mono ?_; rintro e W ⟨rfl, hw1⟩; obtain ⟨hc1_, hf1⟩ := bcell hw1; have hz1 := hw1.size; simp only [World.size_alloc] at hz1)
  have B2 : Boxed W w.heap.size 35 (.slice A0 l0.length c0) := Boxed.below ((Boxed.new w 35 (.slice A0 l0.length c0)).alloc _) (by simpa using hw1)
  have B4 : Boxed W (w.heap.size + 1) 4 (.bool false) := Boxed.below (by have := Boxed.new (w.alloc (.cells #[.slice A0 l0.length c0] 35)) 4 (.bool false); rwa [World.size_alloc] at this) (by simpa using hw1)
  have HB2 := Lib.hid B2
  have HB4 := Lib.hid B4
  have hbl : Below w.heap.size w W := (((Below.refl _ w).alloc (Nat.le_refl _) _).alloc (by simp) _).trans (hw1.mono (by simp only [World.size_alloc]; omega))
  clear hc1_ hf1 B2 B4
  go_wp2
  go_loopw [5, 7] (fun v5 v7 wr => ∃ i : Nat, v7 = .int .i64 i ∧ i ≤ l0.length ∧ (∃ vat, Boxed wr W.heap.size 36 vat ∧ Hid (Kd.R (Kd.int .i64) 3 wr W.heap.size (fun _ => True) vat ((posL 0 (vs.take i)).map Prod.fst))) ∧ Hid (Kd.R (Kd.int .u8) 5 wr W.heap.size (fun _ => True) v5 (flat (vs.take i))) ∧ Hid (Below W.heap.size W wr) ∧ W.heap.size < wr.heap.size) (fun _ v7 _ => l0.length - (intOf v7).toNat)
  case atStart => exact ⟨0, rfl, Nat.zero_le _, ⟨_, Boxed.new W 36 _, Lib.hid (Kd.R_nil _ _ _ _ _)⟩, Lib.hid (Kd.R_nil _ _ _ _ _), Lib.hid ((Below.refl _ W).alloc (Nat.le_refl _) _), by simp⟩
  case round =>
    obtain ⟨i, rfl, hi, ⟨vat, ba, HRa⟩, HRr, Hbw, hws⟩ := hrel
    have b2 : Boxed wr w.heap.size 35 (.slice A0 l0.length c0) := (Hbw.out.block _ (by omega)).trans HB2.out
    have c2 := b2.cell
    have c6 := ba.cell
    have f6 := ba.frozen
    by_cases hlt : i < l0.length
    · have hb1 : decide ((i : Int) < (l0.length : Int)) = true := decide_eq_true (by omega)
      obtain ⟨A5, cap5, rfl, hcap5, _⟩ := Kd.R_reads HRr.out
      obtain ⟨x, hxe⟩ : ∃ x, l0[i] = x := ⟨_, rfl⟩
      have hxb := Hb0.out x (hxe ▸ List.getElem_mem hlt)
      have hC0 : ∀ V, Below w.heap.size w V → ∃ ad, A0 = some ad ∧ V.cell? (ad.add i) = some (.int .u64 x) := fun V hV => by
        obtain ⟨ad, e, hx⟩ := Kd.at_int (Kd.C_below Hr0.out hV) (i : Int) (by omega) (by omega)
        have rx : rd l0 (i : Int) = l0[i] := by simp [rd, hlt]
        rw [rx, Int.toNat_natCast, hxe] at hx
        exact ⟨ad, e, hx⟩
      obtain ⟨ad, had, _⟩ := hC0 w (Below.refl _ w)
      subst had
      have HC0 := Lib.hid (show ∀ V, Below w.heap.size w V → V.cell? (ad.add i) = some (.int .u64 x) from fun V hV => by obtain ⟨ad', e, h⟩ := hC0 V hV; cases e; exact h)
      have Htk := Lib.hid (show vs.take (i + 1) = vs.take i ++ [msk x] by rw [← Hvs.out, ← List.map_take, ← List.map_take, ← hxe, ← List.take_append_getElem hlt, List.map_append]; rfl)
      have hmb := msk_bd x hxb.1 hxb.2
      obtain ⟨kp, hkp⟩ := (rput_yes (msk x) hmb.1).rounds
      have Hkp := Lib.hid hkp
      have h9 := putI_len_le (msk x)
      have hfl : (flat (vs.take i)).length ≤ 540 := by have h := flat_len (vs.take i); have h' := Hvl.out; rw [List.length_take] at h; omega
      have hpl : ((posL 0 (vs.take i)).map Prod.fst).length ≤ 60 := by have h' := Hvl.out; rw [List.length_map, posL_length, List.length_take]; omega
      clear hkp hxe hC0
      have hne6 : some W.heap.size ≠ vat.ownBlock := fun e => by
        obtain ⟨cells, hc⟩ := Kd.R_typed HRa.out _ e.symm
        rw [ba] at hc
        cases hc
      have Hne6 := Lib.hid hne6
      clear hne6
      go_upto_region 11 with (first
        | ((with_reducible refine gate_builtin (b := .append) (xs := #[.tmp 32, .tmp 35]) rfl ?_); at_builtin; refine Kd.R_append (Kd.int .i64) (w0 := W) W.heap.size rfl (.tmp 32) (.tmp 35) 36 3 (.int .i64 0) 8 rfl Try.underlying36 info3 rfl (by decide) (by omega) vat ((posL 0 (vs.take i)).map Prod.fst) ((flat (vs.take i)).length : Int) [.int .i64 ((flat (vs.take i)).length : Int)] (fun _ => True) (fun _ => False) rfl rfl rfl (fun _ hk => hk.elim) (fun _ _ => trivial) HRa.out Hbw.out (by omega) (by omega) ?_; intro v2 w2 ho2 hb2 hg2 hat2; obtain ⟨A2, cap2, hv2, _, _⟩ := Kd.R_reads ho2; rw [List.length_append, List.length_map, List.length_singleton] at hv2; subst hv2; have b6_ := Boxed.kept ba hg2 Hne6.out; have c6_ := b6_.cell; have f6_ := b6_.frozen; have HRr2 := Lib.hid (Kd.R_set (Kd.R_over' HRr.out (Kd.R_typed HRa.out) (by decide) hg2) b6_ (by decide) 0 (.slice A2 ((posL 0 (vs.take i)).length + 1) cap2)); have HRa2 := Lib.hid (Kd.R_set ho2 b6_ (by decide) 0 (.slice A2 ((posL 0 (vs.take i)).length + 1) cap2)); have b6s := b6_.set (.slice A2 ((posL 0 (vs.take i)).length + 1) cap2); have Hb6s := Lib.hid b6s; have Hb2 := Lib.hid (hb2.setCell (p := ⟨W.heap.size, 0, none⟩) (by simp) (.slice A2 ((posL 0 (vs.take i)).length + 1) cap2)); have hsz2 := hg2.size; have hx2 := HC0.out _ (hbl.trans (Hb2.out.mono (by omega))); have b2_ := (Hb2.out.block w.heap.size (by omega)).trans HB2.out; have c2_ := Boxed.cell b2_; clear ho2 hb2 hg2 hat2 b6s b2_))
      obtain ⟨w5, hw5⟩ : ∃ w5, w2.setCell ⟨W.heap.size, 0, none⟩ (.slice A2 ((posL 0 (vs.take i)).length + 1) cap2) = w5 := ⟨_, rfl⟩
      have hsz5 : w5.heap.size = w2.heap.size := by rw [← hw5]; simp [World.setCell]
      rw [hw5] at HRr2 HRa2 Hb6s Hb2 hx2 c2_ ⊢
      clear hw5 b6_ c6_ f6_ c2 c6 f6 ba HRa HRr b2
      go_wp2_with (first
        | (go_at_call 12; refine (embrasureref01_Put.calls kp (msk x) (putI (msk x)) _ Hkp.out).mono ?_; rintro e w3 ⟨vp, rfl, hRp, hbp⟩; obtain ⟨Ap, cp, rfl, hcp, hCp⟩ := Kd.R_reads hRp)
        | ((with_reducible refine gate_builtin (b := .append) (xs := #[.tmp 37, .tmp 43]) rfl ?_); at_builtin; refine Kd.R_append_row (Value.int .u8) (0 : Int) (w0 := W) W.heap.size rfl (.tmp 37) (.tmp 43) 23 5 (.int .u8 0) 1 rfl Try.underlying23 info5 rfl (by omega) (.slice A5 (flat (vs.take i)).length cap5) (flat (vs.take i)) (putI (msk x)) Ap (putI (msk x)).length cp (fun _ => True) rfl rfl (fun _ _ => trivial) (Kd.R_below HRr2.out hbp) hCp (Hb2.out.trans (hbp.mono (by omega))) (by have := hbp.size; omega) (by omega) ?_; intro v1 w4 ho hb hg hat; have Hb6t := Lib.hid (Boxed.kept (Boxed.below Hb6s.out hbp) hg (fun e => by obtain ⟨cells, hc⟩ := Kd.R_typed (Kd.R_below HRr2.out hbp) _ e.symm; rw [Boxed.below Hb6s.out hbp] at hc; cases hc)); have HRa4 := Lib.hid (Kd.R_over' (Kd.R_below HRa2.out hbp) (Kd.R_typed (Kd.R_below HRr2.out hbp)) (by decide) hg); have Hb4 := Lib.hid hb; have Ho := Lib.hid ho; have hsz4 := hg.size; have hszp := hbp.size; clear ho hb hg hat hRp hcp hCp hbp hx2))
      go_roundw
      case rel => exact ⟨i + 1, rfl, by omega, ⟨_, Hb6t.out, Lib.hid (by rw [Htk.out, posL_snoc, List.map_append, List.map_singleton, Int.zero_add]; exact HRa4.out)⟩, Lib.hid (by rw [Htk.out, flat_snoc]; exact Ho.out), Hb4, by omega⟩
      case measure => simp [intOf]; omega
    · have hb1 : decide ((i : Int) < (l0.length : Int)) = false := decide_eq_false (by omega)
      have htake : vs.take i = vs := List.take_of_length_le (by rw [Hvl.out]; omega)
      rw [htake] at HRa HRr
      clear htake
      have HB3 := Lib.hid (hbl.trans (Hbw.out.mono (by omega)))
      have hsr := Hbw.out.size
      obtain ⟨Av, cv, hev, hcv, _⟩ := Kd.R_reads HRa.out
      rw [List.length_map, posL_length, Hvl.out] at hev
      subst hev
      obtain ⟨Ar, cr, rfl, hcr, hCr⟩ := Kd.R_reads HRr.out
      have HCr := Lib.hid hCr
      have hfl : (flat vs).length ≤ 540 := by have h := flat_len vs; have h' := Hvl.out; omega
      clear hCr
      go_upto_region 14 with (go_at_call 16; refine (ref16 kr A1 c1 l1 T _ (Kd.C_below Hr1.out HB3.out) hc1 Hkr.out).mono ?_; rintro e w2 ⟨Aa, ca, Ab, cb, rfl, hRa, hRb, hw2⟩)
      obtain ⟨V1, hV1⟩ : ∃ V1, (w2.alloc (.cells #[.slice Aa T.length ca] 35)).alloc (.cells #[.int .i64 0] 3) = V1 := ⟨_, rfl⟩
      rw [hV1]
      have hsV : V1.heap.size = w2.heap.size + 2 := by rw [← hV1]; simp
      have hw2s := hw2.size
      have hbV : Below w2.heap.size w2 V1 := by rw [← hV1]; exact ((Below.refl _ w2).alloc (Nat.le_refl _) _).alloc (by simp) _
      have B8 : Boxed V1 w2.heap.size 35 (.slice Aa T.length ca) := by rw [← hV1]; exact (Boxed.new w2 35 _).alloc _
      have B10 : Boxed V1 (w2.heap.size + 1) 3 (.int .i64 0) := by
        rw [← hV1]; have := Boxed.new (w2.alloc (.cells #[.slice Aa T.length ca] 35)) 3 (.int .i64 0); rw [World.size_alloc] at this; exact this
      have hbV2 : Below wr.heap.size wr V1 := hw2.trans (hbV.mono hw2s)
      have HBV := Lib.hid hbV2
      have HB8 := Lib.hid B8
      have HB10 := Lib.hid B10
      clear hV1 B8 B10 hRa hRb
      go_wp2_with (first
        | ((with_reducible refine gate_dst (N := 50) rfl ?_); (try (refine gate_guard (by rfl) ?_; dsimp only)); refine Kd.R_lit (Kd.int .u8) _ 5 ?hg (N := 50) ?hd (xs := ([] : List Int)) (inner := []) (ok := fun _ => True) (okp := fun _ => True) ?hr ?hp (fun _ hk => hk) trivial (Below.refl _ _) (Nat.le_refl _) (by simp) ?_; (case hd => rfl); (case hg => rfl); (case hr => first | (go_simp; done) | (go_simp; rfl)); (case hp => exact (Reps.none _ _)); intro v50 w50 ho50 hb50 hg50 hnew50; clear hg50 hnew50)
        | ((with_reducible refine gate_builtin (b := .append) (xs := #[.tmp 50, .tmp 51]) rfl ?_); at_builtin; refine Kd.R_append_row (Value.int .u8) (0 : Int) (w0 := V1) V1.heap.size rfl (.tmp 50) (.tmp 51) 23 5 (.int .u8 0) 1 rfl Try.underlying23 info5 rfl (by omega) v50 [] (flat vs) Ar (flat vs).length cr (fun _ => True) rfl rfl (fun _ _ => trivial) ho50 (Kd.C_below HCr.out (HBV.out.trans (hb50.mono (by omega)))) hb50 hb50.size (by simp; omega) ?_; intro v52 w52 ho52 hb52 hg52 hat52; rw [List.nil_append] at ho52; clear hg52 hat52)
        | ((with_reducible refine gate_builtin (b := .append) (xs := #[.tmp 52, .tmp 53]) rfl ?_); at_builtin; refine Kd.R_append_row (Value.int .u8) (0 : Int) (w0 := V1) V1.heap.size rfl (.tmp 52) (.tmp 53) 23 5 (.int .u8 0) 1 rfl Try.underlying23 info5 rfl (by omega) v52 (flat vs) l1 A1 l1.length c1 (fun _ => True) rfl rfl (fun _ _ => trivial) ho52 (Kd.C_below Hr1.out (HB3.out.trans ((HBV.out.trans (hb52.mono (by omega))).mono (by omega)))) hb52 hb52.size (by omega) ?_; intro v54 w54 ho54 hb54 hg54 hat54; clear hg54 hat54; obtain ⟨A54, c54, hv54, hc54, _⟩ := Kd.R_reads ho54; rw [List.length_append] at hv54; subst hv54)
        | (go_at_call 17; refine (each_maker A54 ((flat vs).length + l1.length) c54 _).mono ?_; rintro e w3 ⟨rfl, rfl⟩))
      obtain ⟨V0, hV0⟩ : ∃ V0, w54.alloc (.cells #[.slice A54 ((flat vs).length + l1.length) c54] 23) = V0 := ⟨_, rfl⟩
      rw [hV0]
      have hs54 := hb54.size
      have hs2 : V0.heap.size = w54.heap.size + 1 := by rw [← hV0]; simp
      have hb54V : Below w54.heap.size w54 V0 := by rw [← hV0]; exact (Below.refl _ w54).alloc (Nat.le_refl _) _
      have B23 : Boxed V0 w54.heap.size 23 (.slice A54 (flat vs ++ l1).length c54) := by rw [← hV0, List.length_append]; exact Boxed.new w54 23 _
      have hb1V : Below V1.heap.size V1 V0 := hb54.trans (hb54V.mono hs54)
      have hbrV : Below wr.heap.size wr V0 := HBV.out.trans (hb1V.mono (by omega))
      have hbWV : Below W.heap.size W V0 := Hbw.out.trans (hbrV.mono (by omega))
      have hbw3 : Below w.heap.size w V0 := hbl.trans (hbWV.mono (by omega))
      have B2 : Boxed V0 w.heap.size 35 (.slice A0 l0.length c0) := (hbWV.block _ (by omega)).trans HB2.out
      have B4 : Boxed V0 (w.heap.size + 1) 4 (.bool false) := (hbWV.block _ (by omega)).trans HB4.out
      have B6 : Boxed V0 W.heap.size 36 (.slice Av l0.length cv) := (hbrV.block _ (by omega)).trans ba
      have B8 := (show Boxed V0 w2.heap.size 35 (.slice Aa T.length ca) from (hb1V.block _ (by omega)).trans HB8.out)
      have B10 := (show Boxed V0 (w2.heap.size + 1) 3 (.int .i64 0) from (hb1V.block _ (by omega)).trans HB10.out)
      have hflb : ∀ x ∈ flat vs ++ l1, 0 ≤ x ∧ x ≤ 255 := fun x hx => by
        rcases List.mem_append.1 hx with hx | hx
        · exact flat_bytes vs (fun v hv => (Hvb.out v hv).1) x hx
        · exact Hb1.out x hx
      obtain ⟨z, hz, hzl⟩ := eachL_behind vs l1 Hvb.out Hb1.out
      rw [HT.out] at hzl
      have hPl : (posL 0 vs).length = l0.length := by rw [posL_length, Hvl.out]
      have Hz := Lib.hid hz
      have Hzl := Lib.hid hzl
      have HPl := Lib.hid hPl
      obtain ⟨S, hS⟩ : ∃ S : Nat → Prop, S = fun b => b ≠ w2.heap.size + 1 ∧ b < V0.heap.size := ⟨_, rfl⟩
      have hSlt : ∀ b, S b → b < V0.heap.size := fun b hb => by rw [hS] at hb; exact hb.2
      have hSn : ¬ S (w2.heap.size + 1) := fun hb => by rw [hS] at hb; exact hb.1 rfl
      have hSy : ∀ b, b < V0.heap.size → b ≠ w2.heap.size + 1 → S b := fun b h1 h2 => by rw [hS]; exact ⟨h2, h1⟩
      clear hS hV0 hz hzl hPl
      have hC54 : ∀ V, KeepS S V0 V → Kd.C (Kd.int .u8) V A54 (flat vs ++ l1).length (flat vs ++ l1) := fun V hV => by
        rw [← List.length_append] at ho54
        exact (Kd.R_reads' (Kd.R_step (w1 := V) (Kd.R_bound ho54) (fun k hk hlt => (hV.2 k (hSy k (by omega) (by have := hk.2.1; omega))).trans (hb54V.block k hlt)))).2.2
      have hCv2 : ∀ V, KeepS S V0 V → Kd.C (Kd.int .i64) V Av l0.length ((posL 0 vs).map Prod.fst) := fun V hV => by
        have := (Kd.R_reads' (Kd.R_step (w1 := V) (Kd.R_bound HRa.out) (fun k hk hlt => (hV.2 k (hSy k (by omega) (by omega))).trans (hbrV.block k hlt)))).2.2
        rwa [List.length_map, posL_length, Hvl.out] at this
      have hCr2 : ∀ V, KeepS S V0 V → Kd.C (Kd.int .u8) V Ar (flat vs).length (flat vs) := fun V hV =>
        (Kd.R_reads' (Kd.R_step (w1 := V) (Kd.R_bound HRr.out) (fun k hk hlt => (hV.2 k (hSy k (by omega) (by omega))).trans (hbrV.block k hlt)))).2.2
      have hC02 : ∀ V, KeepS S V0 V → Kd.C (Kd.int .u64) V A0 l0.length l0 := fun V hV => Kd.Heap.C (Kd.heap_int _) (fun k hk => (hV.2 k (hSy k (by omega) (by omega))).trans (hbw3.block k hk)) Hr0.out
      have seq2 := each_stops 7 (by omega) S w54.heap.size A54 c54 (flat vs ++ l1) V0 (hSy _ (by omega) (by omega)) hSlt B23.cell hc54 (by rw [List.length_append]; omega) hflb hC54
      have HCv := Lib.hid hCv2
      have HCr := Lib.hid hCr2
      have HC0 := Lib.hid hC02
      clear hC54 hCr2 hCv2 hC02 hcv hflb HRa HRr ba ho54 hc54
      refine (wpIn_wide (n := 8)).1 ?_
      refine wpIn_rangeFunc_ownF rfl (by omega) (gf := 19) (lb := #[.pointer (some ⟨w54.heap.size, 0, none⟩)]) rfl trivial (enters_of Try.func19 (by kernel_rfl) rfl)
        seq2 KeepS.trans (fun W l o o' hl h _ _ => KeepS.put W l o o' (fun hb => by have := hSlt l hb; omega) h) (Below.refl _ _) (fun _ => rfl)
        (fun pre V => (pre.take l0.length <+: posL 0 vs ∧ pre.length ≤ l0.length + T.length) ∧ KeepS S V0 V ∧ Boxed V (w2.heap.size + 1) 3 (.int .i64 pre.length) ∧ Below w.heap.size w V)
        (fun c pre V => c = .ret ∧ ¬ (pre.take l0.length <+: posL 0 vs ∧ pre.length ≤ l0.length + T.length))
        ?hI ?hIx ?h0 ?a1 ?assign ?body ?done ?stop
      case assign =>
        intro l x W K hK
        gi_wp2
        exact hK
      case hI =>
        rintro s X Y row ⟨h1, h2, h3, h4⟩ hg hr
        exact ⟨h1, h2.grown hSlt hg (fun r e hb => by have := (hr r e).1; have := hSlt r hb; omega), boxed_own _ _ (fun _ : Unit => _) () X Y row h3 hg (fun r e => (hr r e).2), h4.grown hg (Nat.le_trans hbw3.size h2.1) (fun k e => by have := (hr k e).1; omega)⟩
      case hIx => exact fun cc s X Y row h hg hr => h
      case h0 => exact ⟨⟨by simp, by simp⟩, KeepS.refl _ _, B10, hbw3⟩
      case body =>
        rintro l pre ⟨x1, x2⟩ V ⟨⟨hp, hpl⟩, hk, b9, hbl2⟩ _
        have Ql : Hid (pre.length < 200000000000000) := ‹_›
        clear ‹pre.length < 200000000000000›
        have Hp := Lib.hid hp
        have Hk := Lib.hid hk
        have HSn := Lib.hid hSn
        have b2 := hk.boxed (hSy _ (by omega) (by omega)) B2
        have b4 := hk.boxed (hSy _ (by omega) (by omega)) B4
        have b6 := hk.boxed (hSy _ (by omega) (by omega)) B6
        have b8 := hk.boxed (hSy _ (by omega) (by omega)) B8
        clear hp hk hSn hSy hSlt seq2 B2 B4 B6 B8 B10 B23
        obtain ⟨j, hj⟩ : ∃ j, pre.length = j := ⟨_, rfl⟩
        rw [hj] at b9 hpl
        have Hj := Lib.hid hj
        clear hj
        have c2 := b2.cell
        have f4 := b4.frozen
        have c4 := b4.cell
        have c6 := b6.cell
        have c8 := b8.cell
        have c9 := b9.cell
        have f9 := b9.frozen
        clear b2 b4 b6 b8
        by_cases hjn : j < l0.length
        · obtain ⟨ada, ea, hxa⟩ := Kd.at_int (HCv.out V Hk.out) (j : Int) (by omega) (by omega)
          obtain ⟨adb, eb, hxb⟩ := Kd.at_int (HC0.out V Hk.out) (j : Int) (by omega) (by omega)
          have hjP : j < (posL 0 vs).length := by rw [HPl.out]; exact hjn
          have ra : rd ((posL 0 vs).map Prod.fst) (j : Int) = (posL 0 vs)[j].1 := by simp [rd, hjP]
          have rb : rd l0 (j : Int) = l0[j] := by simp [rd, hjn]
          rw [ra, Int.toNat_natCast] at hxa
          rw [rb, Int.toNat_natCast] at hxb
          clear ra rb
          have hsnd : (posL 0 vs)[j].2 = msk l0[j] := by
            have h1 : ((posL 0 vs).map Prod.snd)[j]? = some (posL 0 vs)[j].2 := by simp [hjP]
            have h2 : ((posL 0 vs).map Prod.snd)[j]? = some (msk l0[j]) := by rw [posL_snd, ← Hvs.out]; simp [hjn]
            exact Option.some.inj (h1.symm.trans h2)
          have htk : pre.take l0.length = pre := List.take_of_length_le (by rw [Hj.out]; omega)
          have hpp : pre <+: posL 0 vs := by have := Hp.out; rwa [htk] at this
          have hsn := snoc_prefix (x1, x2) hpp
          rw [Hj.out, List.getElem?_eq_getElem hjP] at hsn
          have htk2 : (pre ++ [(x1, x2)]).take l0.length = pre ++ [(x1, x2)] := List.take_of_length_le (by rw [List.length_append, Hj.out]; simp; omega)
          obtain ⟨y, hy⟩ : ∃ y, l0[j] = y := ⟨_, rfl⟩
          rw [hy] at hxb hsnd
          obtain ⟨t, ht⟩ : ∃ t, (posL 0 vs)[j] = t := ⟨_, rfl⟩
          rw [ht] at hxa hsn hsnd
          obtain ⟨t1, t2⟩ := t
          dsimp only at hxa hsnd
          subst hsnd
          have Hsn := Lib.hid hsn
          have Htk2 := Lib.hid htk2
          clear ht hy htk hpp hsn htk2 hjP
          have hjg : decide ((j : Int) < (l0.length : Int)) = true := decide_eq_true (by omega)
          have hjt : decide ((l0.length : Int) + (T.length : Int) ≤ j) = false := decide_eq_false (by omega)
          by_cases h1 : x1 = t1
          · by_cases h2 : x2 = msk y
            · have h1b : (x1 != t1) = false := by simpa using h1
              have h2b : (x2 != Go.bits .and .u64 y 9223372036854775807) = false := by simpa [msk] using h2
              have Hpx := Lib.hid (Hsn.out.2 (by rw [h1, h2]))
              clear h1 h2
              gi_wp2
              refine ⟨KeepsOthers.setCell _ _ _, KeepS.setCell HSn.out _, ⟨by rw [Htk2.out]; exact Hpx.out, by rw [List.length_append, Hj.out]; simp; omega⟩, Hk.out.trans (KeepS.setCell HSn.out _), ?_, hbl2.setCell (p := ⟨w2.heap.size + 1, 0, none⟩) (by show w.heap.size ≤ w2.heap.size + 1; omega) _⟩
              rw [List.length_append, Hj.out]; exact b9.set _
            · have h1b : (x1 != t1) = false := by simpa using h1
              have h2b : (x2 != Go.bits .and .u64 y 9223372036854775807) = true := by simpa [msk] using h2
              have H2 := Lib.hid h2
              clear h1 h2
              gi_wp2
              exact ⟨KeepsOthers.setCell _ _ _, rfl, fun h => H2.out (by have h := h.1; rw [Htk2.out] at h; have := Hsn.out.1 h; simp at this; exact this.2.symm)⟩
          · have h1b : (x1 != t1) = true := by simpa using h1
            have H1 := Lib.hid h1
            clear h1
            gi_wp2
            exact ⟨KeepsOthers.setCell _ _ _, rfl, fun h => H1.out (by have h := h.1; rw [Htk2.out] at h; have := Hsn.out.1 h; simp at this; exact this.1.symm)⟩
        · have hjg : decide ((j : Int) < (l0.length : Int)) = false := decide_eq_false (by omega)
          have Htk2 := Lib.hid (show (pre ++ [(x1, x2)]).take l0.length = pre.take l0.length from List.take_append_of_le_length (by rw [Hj.out]; omega))
          by_cases hjt' : j < l0.length + T.length
          · have hjt : decide ((l0.length : Int) + (T.length : Int) ≤ j) = false := decide_eq_false (by omega)
            gi_wp2
            refine ⟨KeepsOthers.setCell _ _ _, KeepS.setCell HSn.out _, ⟨by rw [Htk2.out]; exact Hp.out, by rw [List.length_append, Hj.out]; simp; omega⟩, Hk.out.trans (KeepS.setCell HSn.out _), ?_, hbl2.setCell (p := ⟨w2.heap.size + 1, 0, none⟩) (by show w.heap.size ≤ w2.heap.size + 1; omega) _⟩
            rw [List.length_append, Hj.out]; exact b9.set _
          · have hjt : decide ((l0.length : Int) + (T.length : Int) ≤ j) = true := decide_eq_true (by omega)
            gi_wp2
            exact ⟨KeepsOthers.setCell _ _ _, rfl, fun h => by have h := h.2; rw [List.length_append, Hj.out] at h; simp at h; omega⟩
      case done =>
        rintro D xs V hD hxs ⟨_, hk, b9, hbl3⟩ hK2
        have hlen : xs.length = l0.length + T.length := by rw [hxs, Hz.out, List.length_append, HPl.out, Hzl.out]
        rw [hlen] at b9
        have b2 := hk.boxed (hSy _ (by omega) (by omega)) B2
        have b4 := hk.boxed (hSy _ (by omega) (by omega)) B4
        have b8 := hk.boxed (hSy _ (by omega) (by omega)) B8
        have HCrV := Lib.hid (HCr.out V hk)
        have hVs := hk.1
        clear hk hlen hxs seq2
        obtain ⟨gv, gk, hget, hgk⟩ : ∃ v k, getI (flat vs ++ [5]) = (v, k, 0) ∧ 1 ≤ k := by
          cases hv : vs with
          | nil => exact ⟨5, 1, by decide, by omega⟩
          | cons u us =>
            have hu := Hvb.out u (by rw [hv]; simp)
            rw [flat_cons, List.append_assoc]
            refine ⟨u, _, getI_put u _ hu.1 hu.2, ?_⟩
            have : (putI u).length ≠ 0 := by unfold putI; rw [if_pos hu.2]; intro e; exact enc_ne 8 u (List.length_eq_zero_iff.1 e)
            omega
        obtain ⟨kg, hkg⟩ := (get_yes (flat vs ++ [5]) (fun x hx => by
          rcases List.mem_append.1 hx with hx | hx
          · exact flat_bytes vs (fun v hv => (Hvb.out v hv).1) x hx
          · simp at hx; omega)).rounds
        rw [hget] at hkg
        have Hkg := Lib.hid hkg
        have hgkb : decide (1 ≤ gk) = true := decide_eq_true hgk
        clear hget hkg hgk
        have Hb2 := Lib.hid b2
        have Hb4 := Lib.hid b4
        have Hb8 := Lib.hid b8
        have Hb9 := Lib.hid b9
        have HK2 := Lib.hid hK2
        have Hbl3 := Lib.hid hbl3
        clear b2 b4 b8 b9 hK2 hbl3
        have hDV : D < V.heap.size := (Array.getElem?_eq_some_iff.1 HK2.out).1
        go_upto_region 21 with (first
          | ((with_reducible refine gate_dst (N := 91) rfl ?_); (try (refine gate_guard (by rfl) ?_; dsimp only)); refine Kd.R_lit (Kd.int .u8) _ 5 ?hg2 (N := 91) ?hd2 (xs := ([] : List Int)) (inner := []) (ok := fun _ => True) (okp := fun _ => True) ?hr2 ?hp2 (fun _ hk => hk) trivial (Below.refl _ _) (Nat.le_refl _) (by simp) ?_; (case hd2 => rfl); (case hg2 => rfl); (case hr2 => first | (go_simp; done) | (go_simp; rfl)); (case hp2 => exact (Reps.none _ _)); intro v50 w50 ho50 hb50 hg50 hnew50; clear hg50 hnew50)
          | ((with_reducible refine gate_builtin (b := .append) (xs := #[.tmp 91, .tmp 92]) rfl ?_); at_builtin; refine Kd.R_append_row (Value.int .u8) (0 : Int) (w0 := V) V.heap.size rfl (.tmp 91) (.tmp 92) 23 5 (.int .u8 0) 1 rfl Try.underlying23 info5 rfl (by omega) v50 [] (flat vs) Ar (flat vs).length cr (fun _ => True) rfl rfl (fun _ _ => trivial) ho50 (Kd.C_below HCrV.out hb50) hb50 hb50.size (by simp; omega) ?_; intro v52 w52 ho52 hb52 hg52 hat52; rw [List.nil_append] at ho52; clear hg52 hat52)
          | ((with_reducible refine gate_builtin (b := .append) (xs := #[.tmp 93, .tmp 94]) rfl ?_); at_builtin; refine Kd.R_append (Kd.int .u8) (w0 := V) V.heap.size rfl (.tmp 93) (.tmp 94) 23 5 (.int .u8 0) 1 rfl Try.underlying23 info5 rfl (by decide) (by omega) v52 (flat vs) 5 [.int .u8 5] (fun _ => True) (fun _ => False) rfl rfl rfl (fun _ hk => hk.elim) (fun _ _ => trivial) ho52 hb52 hb52.size (by omega) ?_; intro v54 w54 ho54 hb54 hg54 hat54; clear hg54 hat54; obtain ⟨A54, c54, hv54, hc54, hC54⟩ := Kd.R_reads ho54; rw [List.length_append, List.length_singleton] at hv54; subst hv54; have hc54' := hc54; rw [List.length_append, List.length_singleton] at hc54' hC54; have HC54 := Lib.hid hC54; clear hC54 hc54 ho54)
          | (go_at_call 14; refine (get_snoc kg A54 c54 (flat vs) 5 gv gk 0 _ HC54.out hc54' Hkg.out).mono ?_; rintro e w6 ⟨rfl, hb6⟩))
        have hV6 : Below V.heap.size V w6 := hb54.trans (hb6.mono hb54.size)
        have b2 := Boxed.below Hb2.out hV6
        have b4 := Boxed.below Hb4.out hV6
        have b8 := Boxed.below Hb8.out hV6
        have b9 := Boxed.below Hb9.out hV6
        have hK6 : w6.heap[D]? = some (.deferred (some [])) := (hV6.block D hDV).trans HK2.out
        have hB6 : Below w.heap.size w w6 := Hbl3.out.trans (hV6.mono (by have := Hbl3.out.size; omega))
        have HK6 := Lib.hid hK6
        have HB6 := Lib.hid hB6
        clear hK6 hB6 hV6 hb6 hb54
        have c2 := b2.cell
        have c4 := b4.cell
        have f4 := b4.frozen
        have c8 := b8.cell
        have c9 := b9.cell
        go_wp2
        have hK' := (KeepsOthers.setCell w6 ⟨w.heap.size + 1, 0, none⟩ (.bool true)).same D _ HK6.out rfl
        refine ⟨by simp, .inl ⟨_, _, rfl, run_takeDeferred hK', ?_⟩⟩
        have hc5 := cell_kept (World.cell?_setCell_same' w6 ⟨w.heap.size + 1, 0, none⟩ (.bool true) (by rw [c4]; rfl)) (grownBy_putObj' _ D (.deferred none)) (fun r e => by cases e; exact ⟨_, hK', rfl⟩)
        refine ⟨.bool true, ?_, rfl, (HB6.out.setCell (p := ⟨w.heap.size + 1, 0, none⟩) (by simp) _).trans (belowK_b (w := w) (Nat.le_refl _) _ D _ _ (by omega) hK' rfl rfl)⟩
        simp [results, Try.f8, go_sem, hc5]
      case stop =>
        rintro D jmp pre V hD hS hX hK2
        refine absurd ⟨?_, ?_⟩ hX.2
        · have h := hS
          rw [Hz.out] at h
          exact List.prefix_of_prefix_length_le ((List.take_prefix _ _).trans h) (List.prefix_append _ _) (by rw [HPl.out, List.length_take]; omega)
        · have h := List.IsPrefix.length_le hS
          rwa [Hz.out, List.length_append, HPl.out, Hzl.out] at h

theorem law8_early (A0 : Option Addr) (c0 : Nat) (l0 : List Int) (A1 : Option Addr) (c1 : Nat) (l1 : List Int) (w : World) (h : 60 < l0.length ∨ 20 < l1.length) :
    Calls Try.prog 8 #[.slice A0 l0.length c0, .slice A1 l1.length c1] w fun e w' => e = .returned (.bool true) ∧ Below w.heap.size w w' := by
  obtain ⟨ka, hka⟩ := awake_yes.rounds
  have Haw := Lib.hid hka
  clear hka
  have fin : ∀ w1 : World, Below (w.heap.size + 1 + 1) ((w.alloc (.cells #[.slice A0 l0.length c0] 35)).alloc (.cells #[.bool false] 4)) w1 → Below w.heap.size w (w1.setCell ⟨w.heap.size + 1, 0, none⟩ (.bool true)) :=
    fun w1 hb1 => ((((Below.refl _ w).alloc (Nat.le_refl _) _).alloc (by simp) _).trans (hb1.mono (by omega))).setCell (p := ⟨w.heap.size + 1, 0, none⟩) (by simp) _
  have Fin := Lib.hid fin
  clear fin
  by_cases h1 : 60 < l0.length
  · have g1 : decide (60 < (l0.length : Int)) = true := decide_eq_true (by omega)
    go_enter Try.func8, Try.ntmps8
    go_wp2_with (go_at_call 9; refine (embrasurelaw01_awake.calls _ _ _ Haw.out).mono ?_; rintro e w1 ⟨rfl, hb1⟩; obtain ⟨hc1, hf1⟩ := bcell hb1; have hz1 := hb1.size; simp only [World.size_alloc] at hz1)
    have hc5 := World.cell?_setCell_same' w1 ⟨w.heap.size + 1, 0, none⟩ (.bool true) (by rw [hc1 _ _ (by simp)]; simp)
    refine bodyPost_ret (v := .bool true) (by simp [results, Try.results8, go_sem, hc5]) rfl ⟨rfl, Fin.out _ (by simpa using hb1)⟩
  · have g1 : decide (60 < (l0.length : Int)) = false := decide_eq_false (by omega)
    have g2 : decide (20 < (l1.length : Int)) = true := decide_eq_true (by omega)
    clear h
    go_enter Try.func8, Try.ntmps8
    go_wp2_with (go_at_call 9; refine (embrasurelaw01_awake.calls _ _ _ Haw.out).mono ?_; rintro e w1 ⟨rfl, hb1⟩; obtain ⟨hc1, hf1⟩ := bcell hb1; have hz1 := hb1.size; simp only [World.size_alloc] at hz1)
    have hc5 := World.cell?_setCell_same' w1 ⟨w.heap.size + 1, 0, none⟩ (.bool true) (by rw [hc1 _ _ (by simp)]; simp)
    refine bodyPost_ret (v := .bool true) (by simp [results, Try.results8, go_sem, hc5]) rfl ⟨rfl, Fin.out _ (by simpa using hb1)⟩

theorem law8_row (A0 : Option Addr) (c0 : Nat) (l0 : List Int) (A1 : Option Addr) (c1 : Nat) (l1 : List Int) (w : World) (hr0 : Kd.C (Kd.int .u64) w A0 l0.length l0) (_ : l0.length ≤ c0) (_ : l0.length * 8 ≤ 140737488351232) (hb0 : ∀ x ∈ l0, (Lit.int .u64 x).wf = true)
    (hr1 : Kd.C (Kd.int .u8) w A1 l1.length l1) (hc1 : l1.length ≤ c1) (_ : l1.length * 1 ≤ 140737488351232) (hb1 : ∀ x ∈ l1, (Lit.int .u8 x).wf = true) :
    Calls Try.prog 8 #[.slice A0 l0.length c0, .slice A1 l1.length c1] w fun e w' => e = .returned (.bool true) ∧ Below w.heap.size w w' := by
  by_cases h : l0.length ≤ 60 ∧ l1.length ≤ 20
  · exact law8_in A0 c0 l0 A1 c1 l1 w hr0 ‹_› (fun x hx => bounds_u64 (hb0 x hx)) hr1 hc1 (fun x hx => bounds_u8 (hb1 x hx)) h.1 h.2
  · exact law8_early A0 c0 l0 A1 c1 l1 w (by omega)

end Go.Proofs.Ytehdjpjjldgklaa.Uv
