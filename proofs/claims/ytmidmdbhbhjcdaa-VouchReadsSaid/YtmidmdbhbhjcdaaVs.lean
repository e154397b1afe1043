/-
  vouch.Read, on: the numbers behind the mark are gathered, and looked at. Condition: bytes are bytes.
-/
import Derived.Test.YtmidmdbhbhjcdaaVr
namespace Go.Proofs.Ytmidmdbhbhjcdaa.By
open Go.RowKit Go.Shelf Go.Proofs.Ytmidmdbhbhjcdaa.Sp Go.Proofs.Ytmidmdbhbhjcdaa.H Go.Proofs.Ytmidmdbhbhjcdaa.Uv Go.Proofs.Ytmidmdbhbhjcdaa.Fr Go.Proofs.YtmidmdbhbhjcdaaW.PrintWords Go.Proofs.YtmidmdbhbhjcdaaW.PrintLast Go.Proofs.YtmidmdbhbhjcdaaW.PrintMore
set_option linter.unusedVariables false
set_option linter.unusedSimpArgs false
attribute [local go_sem] Oper.semAt_some
/-- A number and where it begins, within bounds. -/
abbrev Told1 : Type := {p : Int × Int // 0 ≤ p.2 ∧ p.2 ≤ 9223372036854775807}
def numsT (pre : List Told1) : List Int := pre.map (fun x => x.1.2)
theorem numsT_all (pre : List Told1) : (pre.map Subtype.val).map Prod.snd = numsT pre := by unfold numsT; rw [List.map_map]; rfl
theorem info3 : (Try.prog.info? 3).map (fun i => (i.zero, i.size, i.bytes)) = some (some (.int .i64 0), 1, 8) := by kernel_rfl
theorem ownInts {w : World} {base : Nat} {v : Value} {k : Nat} {N : List Int} (hk : k = N.length) (h : w.ownsRow base 3 1 v k (N.map (Value.int .i64))) : (Kd.int .i64).R 3 w base (fun _ => True) v N := by
  subst hk
  exact Kd.R_of_own (enc := Value.int .i64) (h1 := fun _ => rfl) h (fun _ _ => trivial)
theorem text_n (w : World) (A : Option Addr) (n c : Nat) (nums : List Int) (hn0 : n = nums.length) (hr : Kd.C (Kd.int .i64) w A n nums) (hc : n ≤ c) (hn : ∀ x ∈ nums, 0 ≤ x ∧ x ≤ 9223372036854775807) (h0 : 0 < n) (hl : n ≤ 1000) :
    Calls Try.prog 29 #[.slice A n c] w fun e w' => ∃ A' m' c', e = .returned (.slice A' m' c') ∧ m' = (textL nums).length ∧ m' ≤ c' ∧ Kd.C (Kd.int .u8) w' A' m' (textL nums) ∧ Below w.heap.size w w' := by
  subst hn0
  refine (text_calls w A c nums hr hc hn h0 hl).mono ?_
  rintro e w' ⟨v, rfl, hR, hb⟩
  obtain ⟨A', c', rfl, hc', hC'⟩ := Kd.R_reads hR
  exact ⟨A', _, c', rfl, rfl, hc', hC', hb⟩
theorem three {N : List Int} (h : N.length = 3) : ∃ r p u, N = [r, p, u] := by
  match N, h with
  | [r, p, u], _ => exact ⟨r, p, u, rfl⟩
theorem own_lower {w : World} {b0 b1 : Nat} {e : TypeId} {size : Nat} {v : Value} {k : Nat} {xs : List Value} (h : w.ownsRow b1 e size v k xs) (hb : b0 ≤ b1) : w.ownsRow b0 e size v k xs := by
  obtain ⟨h1, h2⟩ := h
  refine ⟨h1, ?_⟩
  rcases h2 with h2 | ⟨g, cap, cur, e1, e2, e3⟩
  · exact .inl h2
  · exact .inr ⟨g, cap, cur, e1, Nat.le_trans hb e2, e3⟩
theorem own_ge {w : World} {b1 : Nat} {e : TypeId} {size : Nat} {v : Value} {k : Nat} {xs : List Value} (h : w.ownsRow b1 e size v k xs) (g : Nat) (hg : some g = v.ownBlock) : b1 ≤ g := by
  obtain ⟨h1, h2⟩ := h
  rcases h2 with ⟨rfl, _⟩ | ⟨g', cap, cur, rfl, e2, e3⟩
  · cases hg
  · cases hg; exact e2
set_option maxRecDepth 100000 in
set_option maxHeartbeats 2000000 in
theorem read_in (w : World) (A : Option Addr) (c : Nat) (l : List Int) (hr : Kd.C (Kd.int .u8) w A l.length l) (hc : l.length ≤ c) (hb : Bytes l) (hl : l.length ≤ 1000000) (t : List Int) (k tag n : Int) (hF : getF l = (t, k, 0)) (hG : getI (l.drop k.toNat) = (tag, n, 0)) (hkn : k + n = l.length) (hmk : t.take 3 = markL) :
    Calls Try.prog 13 #[.slice A l.length c] w fun e w' => e = .returned (readR l) ∧ Below w.heap.size w w' := by
  have hq := fget_calls w A c l hr hc hb (by omega)
  rw [hF] at hq
  dsimp only at hq
  obtain ⟨hk0, hloop, hkl, htl, htb⟩ := getF_ok hb hF
  obtain ⟨i0, hi0, _, hsz0, _⟩ := info_parts info8
  obtain ⟨A9, hcut9, hA9, hC9⟩ := print_drop_of (P := Try.prog) (Value.int .u8) 0 22 5 .i64 Try.underlying22 hi0 hsz0 A c l k hk0 (by omega) hc
  obtain ⟨m, hm⟩ : ∃ m, (l.drop k.toNat).length = m := ⟨_, rfl⟩
  obtain ⟨tn, htn⟩ : ∃ m, t.length = m := ⟨_, rfl⟩
  rw [hm] at hcut9 hC9 hA9
  have HC9 := Lib.hid (fun (W : World) (h : Below w.heap.size w W) => Kd.C_of_reads (h1 := fun _ => rfl) (hA9 W (Kd.reads_of_C (Kd.C_below hr h))))
  have HU := Lib.hid (fun (W : World) (h : Below w.heap.size w W) => uget_n W A9 m (c - k.toNat) (l.drop k.toNat) hm.symm (HC9.out W h) hC9 (hb.drop _) tag n 0 hG)
  have h3t : 3 ≤ tn := by
    have := congrArg List.length hmk
    rw [List.length_take] at this
    have h3 : markL.length = 3 := rfl
    omega
  have hgt := getI_in (hb.drop k.toNat) (by rw [hG])
  rw [hG] at hgt
  dsimp only at hgt
  have hw : IntKind.i64.wrap (k + n) = k + n := i64_of (by omega)
  have b1 : (k + n != (l.length : Int)) = false := by simpa using hkn
  have b2 : decide (t.take 3 = markL) = true := decide_eq_true hmk
  obtain ⟨q, hqq⟩ : ∃ q, tn - 3 = q := ⟨_, rfl⟩
  have hdl : (t.drop 3).length = q := by rw [List.length_drop]; omega
  -- what the end says
  have HGd := Lib.hid (fun r p u (h1 : textL [r, p, u] = t) (h2 : mayF r p u = true) => readR_good (good_of hb hF hG hkn h1 h2))
  have HBd := Lib.hid (show (∀ r p u, (eachL (t.drop 3)).map Prod.snd = [r, p, u] → ¬ (mayF r p u = true ∧ textL [r, p, u] = t)) → readR l = .tuple #[.int .i64 0, .int .i64 0, .int .i64 0, .int .u64 0, .int .i64 3] from fun h => readR_bad fun r p u tag' hg => by
    have e1 := (good_F hg).1
    rw [hF] at e1
    have e2 : t = textL [r, p, u] := congrArg Prod.fst e1
    have e3 := good_each hg
    rw [← e2] at e3
    exact h r p u e3 ⟨hg.1, e2.symm⟩)
  obtain ⟨N, hN⟩ : ∃ N, (eachL (t.drop 3)).map Prod.snd = N := ⟨_, rfl⟩
  rw [hN] at HBd
  have hNl : N.length ≤ 1200 := by
    rw [← hN, List.length_map]
    have := eachL_len (t.drop 3) (htb.drop 3)
    omega
  have HNN := Lib.hid hN
  have HQ := Lib.hid hq
  have HT := Lib.hid htb
  have HTN := Lib.hid htn
  have HDL := Lib.hid hdl
  have HMK := Lib.hid hmk
  have HM := Lib.hid hm
  have HQQ := Lib.hid hqq
  have HTL := Lib.hid htl
  clear hq hA9 hi0 hsz0 hF hG htb htn hm hb htl hloop hN hmk hqq hdl hgt hkn
  have qc : ∀ (w : World), _ := fun w => Lib.run_convert_bytes_const (P := Try.prog) w 22 5 #[.int .u8 118, .int .u8 99, .int .u8 104] 3 3 Try.underlying22 Try.underlying5
  refine (callsIn_wide (n := 8)).1 ?_
  refine callsIn_of_wp_marks Try.func13 rfl trivial (wpIn_wide.2 ?_) rfl
  simp only [Try.ntmps13, List.size_toArray, List.length_cons, List.length_nil, Nat.reduceAdd, Nat.reduceSub, Array.replicate_succ, Array.replicate_zero, List.push_toArray, List.append_toArray, List.nil_append, List.cons_append]
  go_upto_region 5 with (first
    | (go_at_call 23; with_reducible refine HQ.out.mono ?_; rintro e1 w1 ⟨v1, rfl, hR1, hb1⟩; obtain ⟨A1, c1, hv1, hc1, hC1⟩ := Kd.R_reads hR1; rw [HTN.out] at hv1 hC1 hc1; subst hv1; have HC1 := Lib.hid hC1; have HB1 := Lib.hid hb1; clear hR1 hb1 hC1)
    | (go_at_call 24; with_reducible refine (HU.out _ HB1.out).mono ?_; rintro e2 w2 ⟨rfl, hb2⟩; have HB2 := Lib.hid (HB1.out.trans (hb2.mono HB1.out.size)); have HC2 := Lib.hid (Kd.C_below HC1.out hb2); clear hb2))
  obtain ⟨W, hW⟩ : ∃ W, w2.alloc (.cells #[.int .u8 118, .int .u8 99, .int .u8 104] 5 (3, 4)) = W := ⟨_, rfl⟩
  have HC0 := Lib.hid (show (Kd.int .u8).C W (some ⟨w2.heap.size, 0, none⟩) 3 markL from by rw [← hW]; exact mark_C w2 4)
  have HBW0 := Lib.hid (show Below w2.heap.size w2 W from by rw [← hW]; exact below_mark w2)
  have HBW := Lib.hid (HB2.out.trans (HBW0.out.mono HB2.out.size))
  have HC2W := Lib.hid (Kd.C_below HC2.out HBW0.out)
  have HX := Lib.hid (cut_yes W A1 tn c1 t HTN.out.symm HC2W.out hc1 HT.out (some ⟨w2.heap.size, 0, none⟩) 3 HC0.out (Nat.le_refl _) HMK.out)
  rw [HQQ.out] at HX
  go_upto_region 6 with (go_at_call 25; with_reducible refine HX.out.mono ?_; rintro e3 w3 ⟨⟨A3, rfl, hC3⟩, hd3⟩; have HB3 := Lib.hid (HBW.out.trans (hd3.below.mono HBW.out.size)); have HC13 := Lib.hid (Kd.C_below HC2W.out hd3.below); have HC3 := Lib.hid hC3; clear hd3 hC3)
  clear hW qc hcut9
  go_wp2_with (go_at_call 26; refine (each_maker A3 q (c1 - 3) _).mono ?_; rintro e w4 ⟨rfl, rfl⟩)
  obtain ⟨W0, hW0⟩ : ∃ W0, (w3.alloc (.cells #[.slice none 0 0] 70)).alloc (.cells #[.slice A3 q (c1 - 3)] 22) = W0 := ⟨_, rfl⟩
  rw [hW0]
  have hs4 : W0.heap.size = w3.heap.size + 2 := by rw [← hW0]; simp
  have hb30 : Below w3.heap.size w3 W0 := by rw [← hW0]; exact ((Below.refl _ w3).alloc (Nat.le_refl _) _).alloc (by simp) _
  have BN : Boxed W0 w3.heap.size 70 (.slice none 0 0) := by rw [← hW0]; exact (Boxed.new w3 _ _).alloc _
  have BE : Boxed W0 (w3.heap.size + 1) 22 (.slice A3 q (c1 - 3)) := by
    rw [← hW0]; have := Boxed.new (w3.alloc (.cells #[.slice none 0 0] 70)) 22 (.slice A3 q (c1 - 3)); rw [World.size_alloc] at this; exact this
  have hbw : Below w.heap.size w W0 := HB3.out.trans (hb30.mono HB3.out.size)
  have hws := hbw.size
  clear hW0
  obtain ⟨S, hS⟩ : ∃ S : Nat → Prop, S = fun b => b ≠ w3.heap.size ∧ b < W0.heap.size := ⟨_, rfl⟩
  have hSlt : ∀ b, S b → b < W0.heap.size := fun b hb => by rw [hS] at hb; exact hb.2
  have hSn : ∀ b, S b → b ≠ w3.heap.size := fun b hb => by rw [hS] at hb; exact hb.1
  have hSy : ∀ b, b < W0.heap.size → b ≠ w3.heap.size → S b := fun b h1 h2 => by rw [hS]; exact ⟨h2, h1⟩
  clear hS
  have hCt : ∀ V, KeepS S W0 V → Kd.C (Kd.int .u8) V A3 (t.drop 3).length (t.drop 3) := fun V hV => by
    rw [HDL.out]; exact Kd.Heap.C (Kd.heap_int _) (fun k hk => (hV.2 k (hSy k (by omega) (by omega))).trans (hb30.block k hk)) HC3.out
  have HC1V := Lib.hid (show ∀ V, KeepS S W0 V → Kd.C (Kd.int .u8) V A1 tn t from fun V hV =>
    Kd.Heap.C (Kd.heap_int _) (fun k hk => (hV.2 k (hSy k (by omega) (by omega))).trans (hb30.block k hk)) HC13.out)
  have hql : (t.drop 3).length ≤ 1200 := by have := HTL.out; rw [List.length_drop]; omega
  have seq := each_stops_of (β := Told1) 1200 (fun x => x.1) (fun i a _ _ h1 h2 => ⟨⟨(i, a), h1, h2⟩, rfl⟩) 7 (by omega) S (w3.heap.size + 1) A3 (c1 - 3) (t.drop 3) W0 (hSy _ (by omega) (by omega)) hSlt (by rw [HDL.out]; exact BE.cell) (by rw [HDL.out]; have := HQQ.out; omega) (by omega) hql (HT.out.drop 3) hCt
  clear hCt hql BE
  obtain ⟨n1, hn1⟩ : ∃ n1, W0.heap.size = n1 := ⟨_, rfl⟩
  have HN13 := Lib.hid (show w3.heap.size ≤ n1 by omega)
  refine (wpIn_wide (n := 8)).1 ?_
  refine wpIn_rangeFunc_ownF rfl (by omega) (gf := 41) (lb := #[.pointer (some ⟨w3.heap.size + 1, 0, none⟩)]) rfl trivial (enters_of Try.func41 (by kernel_rfl) rfl)
    seq KeepS.trans (fun W l o o' hl h _ _ => KeepS.put W l o o' (fun hb => by have := hSlt l hb; omega) h) (Below.refl _ _) (fun _ => rfl)
    (fun pre V => KeepS S W0 V ∧ (∃ v, Boxed V w3.heap.size 70 v ∧ V.ownsRow n1 3 1 v pre.length ((numsT pre).map (Value.int .i64)) ∧ True) ∧ Below w.heap.size w V)
    (fun _ _ _ => False)
    ?hI ?hIx ?h0 ?a1 ?assign ?body ?done ?stop
  case assign =>
    intro l x W K hK
    gi_wp2
    exact hK
  case hI =>
    rintro s X Y row ⟨h2, h3, h4⟩ hg hr
    exact ⟨h2.grown hSlt hg (fun r e hb => by have := (hr r e).1; have := hSlt r hb; omega), holdsRow_own n1 w3.heap.size 70 3 1 (fun pre : List Told1 => pre.length) (fun pre => (numsT pre).map (Value.int .i64)) (fun _ _ => True) s X Y row h3 hg (fun r e => (hr r e).2), h4.grown hg (Nat.le_trans hbw.size h2.1) (fun k e => by have := (hr k e).1; omega)⟩
  case hIx => exact fun cc s X Y row h hg hr => h
  case h0 => exact ⟨KeepS.refl _ _, ⟨_, BN, World.ownsRow_nil _ _ _ _, trivial⟩, hbw⟩
  case body =>
    rintro lp pre ⟨⟨x1, x2⟩, hx1, hx2⟩ V ⟨hk, ⟨v, b9, hrow, _⟩, hbl⟩ hlt
    dsimp only at hx1 hx2
    have hwx : IntKind.i64.wrap x2 = x2 := i64_of (by omega)
    have hex : (x2 + 9223372036854775808) % 18446744073709551616 - 9223372036854775808 = x2 := by omega
    obtain ⟨i0', hi0, hz0, hsz0, hby0⟩ := info_parts info3
    have HI0 := Lib.hid hi0
    have HZ0 := Lib.hid hz0
    have HS0 := Lib.hid hsz0
    have HY0 := Lib.hid hby0
    have Hrow := Lib.hid hrow
    have Hk := Lib.hid hk
    have Hb9 := Lib.hid b9
    have Hbl := Lib.hid hbl
    have HSn := Lib.hid hSn
    have HSlt := Lib.hid hSlt
    have Hn1 := Lib.hid hn1
    have Hlt := Lib.hid hlt
    have hVs : n1 ≤ V.heap.size := by rw [← hn1]; exact hk.1
    have HVs := Lib.hid hVs
    obtain ⟨j, hj⟩ : ∃ j, pre.length = j := ⟨_, rfl⟩
    have Hj := Lib.hid hj
    rw [hj] at Hrow Hlt
    have hj12 := Hlt.out
    have c9 := b9.cell
    have f9 := b9.frozen
    clear hi0 hz0 hsz0 hby0 hrow hk b9 hbl hSn hSlt hSy seq BN hn1 hlt hVs hj hs4 hws
    gi_wp2_with (gi_at_builtin; refine wpListIn_append_own _ rfl (.tmp 58) (.tmp 61) 70 rfl n1 3 i0' (.int .i64 0) 1 8 Try.underlying70 HI0.out HZ0.out HS0.out HY0.out rfl (by decide) v j ((numsT pre).map (Value.int .i64)) rfl (Hrow.out.alloc _) ⟨V.heap.size, 0, none⟩ 1 1 [.int .i64 x2] rfl rfl (cell_one_new _ _ _) (by simp [Value.oneCell']) (by unfold maxLen; omega) (by omega) (by have := HVs.out; simp; omega) ?_; intro v' w1' hown' hgrow _; obtain ⟨g', cap', hv'⟩ := ownsRow_succ hown'; subst hv'; have hb9' : Boxed w1' w3.heap.size 70 v := (Hb9.out.alloc _).kept hgrow (Hb9.out.not_row (by decide) Hrow.out); have Hown' := Lib.hid hown'; have Hgrow := Lib.hid hgrow; have hc1 := hb9'.cell; have hf1 := hb9'.frozen; have Hb9' := Lib.hid hb9'; clear hown' hgrow hb9')
    have hS1 := HSn.out
    obtain ⟨_, hv2, _, hk2, hb2⟩ := Hb9.out.appended (n₀ := w3.heap.size) (by decide) (own_lower Hrow.out HN13.out) (Nat.le_trans HN13.out HVs.out) (Nat.le_refl _) (own_lower Hown'.out HN13.out) Hgrow.out
    have hr2 := Hown'.out.kept (grownBy_setCell' w1' w3.heap.size (.slice (some ⟨g', 0, none⟩) (j + 1) cap')) (.inr (Hb9'.out.not_row (by decide) Hown'.out).symm)
    have hkS : KeepS S V (w1'.setCell ⟨w3.heap.size, 0, none⟩ (.slice (some ⟨g', 0, none⟩) (j + 1) cap')) := ⟨hb2.size, fun b hb => by
      have h1 := HSlt.out b hb
      have h2 := HVs.out
      have h3 := Hn1.out
      have h4 : V.heap[b]? = (V.alloc (.cells #[.int .i64 x2] 3)).heap[b]? := (Below.heap_alloc V _ b (by omega)).symm
      rw [h4]
      exact (Below.heap_setCell _ _ _ _ (hS1 b hb)).trans (Hgrow.out.block b (by simp; omega) (fun e => by have := own_ge Hrow.out b e; omega))⟩
    refine ⟨hk2, hkS, Hk.out.trans hkS, ⟨_, hv2, ?_, trivial⟩, Hbl.out.trans (hb2.mono HB3.out.size)⟩
    rw [List.length_append, List.length_singleton, Hj.out]
    unfold numsT
    rw [List.map_append, List.map_append]
    exact hr2
  case done =>
    rintro D xs V hD hxs ⟨hk, ⟨v, b9, hrow, _⟩, hbl⟩ hK2
    have hNx : numsT xs = N := by rw [← numsT_all, hxs, HNN.out]
    have hxl : xs.length = N.length := by rw [← hNx]; unfold numsT; rw [List.length_map]
    rw [hNx, hxl] at hrow
    have hR := ownInts rfl hrow
    obtain ⟨Av, cv, hv, hcv, hCv⟩ := Kd.R_reads hR
    obtain ⟨nl, hnl⟩ : ∃ m, N.length = m := ⟨_, rfl⟩
    rw [hnl] at hv hcv hCv hNl hrow
    subst hv
    have HROW := Lib.hid hrow
    have HCV := Lib.hid hCv
    have HCT := Lib.hid (HC1V.out V hk)
    have HBL := Lib.hid hbl
    have HK2 := Lib.hid hK2
    have HNL := Lib.hid hnl
    have c14 := b9.cell
    clear hk hrow hR hCv hbl hK2 hxs hNx hxl hnl b9 seq hSy hSn hSlt BN hn1 hs4 hws hbw
    go_upto_region 12 with fail
    go_cut [85] from 63 (fun s85 wx => ((s85 = .bool true ∧ ∀ r p u, N = [r, p, u] → ¬ (mayF r p u = true ∧ textL [r, p, u] = t)) ∨ (s85 = .bool false ∧ ∃ r p u, N = [r, p, u] ∧ mayF r p u = true ∧ textL [r, p, u] = t)) ∧ Below V.heap.size V wx)
    case first =>
      have hbd : Below V.heap.size V V.drew := ⟨rfl, rfl, rfl, Nat.le_refl _, fun _ _ => rfl⟩
      by_cases hn3 : nl = 3
      · subst hn3
        obtain ⟨r, p, u, rfl⟩ := three HNL.out
        obtain ⟨g, cap, hg⟩ := ownsRow_succ HROW.out
        obtain ⟨rfl, rfl⟩ : Av = some ⟨g, 0, none⟩ ∧ cv = cap := by injection hg with h1 h2 h3; exact ⟨h1, h3⟩
        obtain ⟨_, e0, d0⟩ := cell_of_C HCV.out 0 (by simp) rfl
        injection e0 with e0
        subst e0
        obtain ⟨_, e0, d1⟩ := cell_of_C HCV.out 1 (by simp) rfl
        injection e0 with e0
        subst e0
        obtain ⟨_, e0, d2⟩ := cell_of_C HCV.out 2 (by simp) rfl
        injection e0 with e0
        subst e0
        clear hg
        replace d0 : V.cell? ⟨g, 0, none⟩ = some (.int .i64 r) := d0
        replace d1 : V.cell? ⟨g, 1, none⟩ = some (.int .i64 p) := d1
        replace d2 : V.cell? ⟨g, 2, none⟩ = some (.int .i64 u) := d2
        have HCELL := Lib.hid (show ∀ W, Below V.heap.size V W → W.cell? ⟨w3.heap.size, 0, none⟩ = some (.slice (some ⟨g, 0, none⟩) 3 cv) ∧ W.cell? ⟨g, 0, none⟩ = some (.int .i64 r) ∧ W.cell? ⟨g, 1, none⟩ = some (.int .i64 p) ∧ W.cell? ⟨g, 2, none⟩ = some (.int .i64 u) from fun W hW =>
          ⟨(hW.cell (World.block_lt_of_cell? _ _ c14)).trans c14, (hW.cell (World.block_lt_of_cell? _ _ d0)).trans d0, (hW.cell (World.block_lt_of_cell? _ _ d1)).trans d1, (hW.cell (World.block_lt_of_cell? _ _ d2)).trans d2⟩)
        have b3 : ((3 : Int) != 3) = false := rfl
        refine wp_calm ?_
        by_cases hm : mayF r p u = true
        · have HM' := Lib.hid hm
          have KM := Lib.hid (fun (W : World) => (may_calls W r p u))
          rw [hm] at KM
          obtain ⟨bt, hbt⟩ : ∃ b, decide (textL [r, p, u] = t) = b := ⟨_, rfl⟩
          have HBT := Lib.hid hbt
          clear hbt hm
          have KT := Lib.hid (fun (W : World) (h : Below V.heap.size V W) => text_n W (some ⟨g, 0, none⟩) 3 cv [r, p, u] rfl (Kd.C_below HCV.out h) hcv (may_nums HM'.out) (by omega) (by omega))
          go_region_held3 (fun w' => w'.cell? ⟨w3.heap.size, 0, none⟩ = some (.slice (some ⟨g, 0, none⟩) 3 cv) ∧ w'.cell? ⟨g, 0, none⟩ = some (.int .i64 r) ∧ w'.cell? ⟨g, 1, none⟩ = some (.int .i64 p) ∧ w'.cell? ⟨g, 2, none⟩ = some (.int .i64 u)) (first | exact ⟨c14, d0, d1, d2⟩ | exact f6 | exact f7 | exact f8 | go_keep)
            (first
              | (go_at_call 27; refine (KM.out _).mono ?_; rintro e w6 ⟨rfl, hd6⟩; have HB6 := Lib.hid (hbd.trans hd6.below); have f6 := HCELL.out w6 HB6.out; clear hd6)
              | (go_at_call 29; refine (KT.out _ HB6.out).mono ?_; rintro e w7 ⟨A7, m7, c7, rfl, hm7, hc7, hC7, hb7⟩; have HB7 := Lib.hid (HB6.out.trans (hb7.mono HB6.out.size)); have f7 := HCELL.out w7 HB7.out; have HC7 := Lib.hid hC7; have HM7 := Lib.hid hm7; clear hb7 hm7 hC7)
              | (go_at_call 28; refine (equal_n w7 A7 m7 c7 (textL [r, p, u]) A1 tn c1 t HM7.out HTN.out.symm (textL_bytes (fun x hx => (may_nums HM'.out x hx).1)) HT.out HC7.out hc7 (Kd.C_below HCT.out HB7.out) hc1).mono ?_; rw [HBT.out]; rintro e w8 ⟨rfl, hd8⟩; have HB8 := Lib.hid (HB7.out.trans (hd8.below.mono HB7.out.size)); have f8 := HCELL.out w8 HB8.out; clear hd8))
          cases bt with
          | true =>
            have HW := Lib.hid (of_decide_eq_true HBT.out)
            go_wp2_with fail
            go_meet
            case rel => exact ⟨.inr ⟨rfl, r, p, u, rfl, HM'.out, HW.out⟩, HB8.out⟩
          | false =>
            have HW := Lib.hid (of_decide_eq_false HBT.out)
            go_wp2_with fail
            go_meet
            case rel => exact ⟨.inl ⟨rfl, fun r' p' u' e h => by cases e; exact HW.out h.2⟩, HB8.out⟩
        · have HM' := Lib.hid hm
          have hmf : mayF r p u = false := by simpa using hm
          have KM := Lib.hid (fun (W : World) => (may_calls W r p u))
          rw [hmf] at KM
          clear hm hmf
          go_quiet ((go_loud (go_at_call 27; exact Calls.quiet_of ((KM.out _).mono (fun e w6 h => ⟨h.1, h.2.out⟩)))))
          go_wp2_with fail
          go_meet
          case rel => exact ⟨.inl ⟨rfl, fun r' p' u' e h => by cases e; exact HM'.out h.1⟩, below_drN (Below.refl _ _) _⟩
      · have b3 : ((nl : Int) != 3) = true := by simp; omega
        have HN3 := Lib.hid hn3
        clear hn3
        refine wp_calm ?_
        go_quiet (fail)
        go_wp2_with fail
        go_meet
        case rel => exact ⟨.inl ⟨rfl, fun r' p' u' e h => HN3.out (by rw [← HNL.out, e]; rfl)⟩, below_drN (Below.refl _ _) _⟩
    case rest =>
      obtain ⟨hres, hbx⟩ := hcut
      have HBX := Lib.hid hbx
      have hDl : D < V.heap.size := (Array.getElem?_eq_some_iff.1 HK2.out).1
      have HKX := Lib.hid ((hbx.block D hDl).trans HK2.out)
      have HDL2 := Lib.hid (show w.heap.size ≤ D by have := HB3.out.size; have := hb30.size; omega)
      clear hbx hDl
      rcases hres with ⟨rfl, hbad⟩ | ⟨rfl, r, p, u, hNe, hm, ht⟩
      · have HE := Lib.hid (HBd.out hbad)
        clear hbad c14
        go_wp2
        refine ⟨by simp, .inl ⟨_, _, rfl, run_takeDeferred HKX.out, ?_⟩⟩
        refine ⟨.tuple #[.int .i64 0, .int .i64 0, .int .i64 0, .int .u64 0, .int .i64 3], ?_, by rw [HE.out], (HBL.out.trans (HBX.out.mono HBL.out.size)).trans (belowK_b (w := w) (Nat.le_refl _) _ D _ _ HDL2.out HKX.out rfl rfl)⟩
        simp [results, Try.f13, go_sem]
      · subst hNe
        obtain rfl : nl = 3 := HNL.out.symm
        obtain ⟨g, cap, hg⟩ := ownsRow_succ HROW.out
        obtain ⟨rfl, rfl⟩ : Av = some ⟨g, 0, none⟩ ∧ cv = cap := by injection hg with h1 h2 h3; exact ⟨h1, h3⟩
        obtain ⟨_, e0, d0⟩ := cell_of_C HCV.out 0 (by simp) rfl
        injection e0 with e0
        subst e0
        obtain ⟨_, e0, d1⟩ := cell_of_C HCV.out 1 (by simp) rfl
        injection e0 with e0
        subst e0
        obtain ⟨_, e0, d2⟩ := cell_of_C HCV.out 2 (by simp) rfl
        injection e0 with e0
        subst e0
        clear hg
        replace d0 : V.cell? ⟨g, 0, none⟩ = some (.int .i64 r) := d0
        replace d1 : V.cell? ⟨g, 1, none⟩ = some (.int .i64 p) := d1
        replace d2 : V.cell? ⟨g, 2, none⟩ = some (.int .i64 u) := d2
        replace c14 := (HBX.out.cell (World.block_lt_of_cell? _ _ c14)).trans c14
        replace d0 := (HBX.out.cell (World.block_lt_of_cell? _ _ d0)).trans d0
        replace d1 := (HBX.out.cell (World.block_lt_of_cell? _ _ d1)).trans d1
        replace d2 := (HBX.out.cell (World.block_lt_of_cell? _ _ d2)).trans d2
        have HE := Lib.hid (HGd.out r p u ht hm)
        clear hm ht
        go_upto_region 14 with fail
        refine wp_calm ?_
        go_quiet (fail)
        go_wp2_with fail
        have HKY := Lib.hid (show (wc.drewN nq).heap[D]? = some (.deferred (some [])) from HKX.out)
        refine ⟨by simp, .inl ⟨_, _, rfl, run_takeDeferred HKY.out, ?_⟩⟩
        refine ⟨.tuple #[.int .i64 r, .int .i64 p, .int .i64 u, .int .u64 tag, .int .i64 0], ?_, by rw [HE.out], (HBL.out.trans ((below_drN HBX.out nq).mono HBL.out.size)).trans (belowK_b (w := w) (Nat.le_refl _) _ D _ _ HDL2.out HKY.out rfl rfl)⟩
        simp [results, Try.f13, go_sem]
  case stop => exact fun D jmp pre V hD hS hX hK2 => hX.elim
theorem read_calls (w : World) (A : Option Addr) (n c : Nat) (l : List Int) (hn : n = l.length) (hr : Kd.C (Kd.int .u8) w A n l) (hc : n ≤ c) (hb : Bytes l) (hl : n ≤ 1000000) :
    Calls Try.prog 13 #[.slice A n c] w fun e w' => e = .returned (readR l) ∧ Below w.heap.size w w' := by
  subst hn
  obtain ⟨⟨t, k, e⟩, hF⟩ : ∃ q, getF l = q := ⟨_, rfl⟩
  by_cases he : e = 0
  · subst he
    obtain ⟨⟨tag, m, e2⟩, hG⟩ : ∃ q, getI (l.drop k.toNat) = q := ⟨_, rfl⟩
    by_cases h : e2 = 0 ∧ k + m = l.length ∧ t.take 3 = markL
    · obtain ⟨rfl, h1, h2⟩ := h
      exact read_in w A c l hr hc hb hl t k tag m hF hG h1 h2
    · rw [readR_bad (l := l) fun r p u tag' hg => ?_]
      · exact read_off w A c l hr hc hb hl t k tag m e2 hF hG h
      · have e1 := (good_F hg).1
        rw [hF] at e1
        have e2' : t = textL [r, p, u] := congrArg Prod.fst e1
        have e3 : k = ((frameI (textL [r, p, u])).length : Int) := congrArg (fun q => q.2.1) e1
        have e4 := good_tag hg
        have e5 := good_len hg
        rw [e3, Int.toNat_natCast, e4] at hG
        have g2 : ((putI tag').length : Int) = m := congrArg (fun q => q.2.1) hG
        have g3 : (0 : Int) = e2 := congrArg (fun q => q.2.2) hG
        exact h ⟨g3.symm, by rw [e3, ← g2, e5]; simp, by rw [e2', textL_take]⟩
  · rw [readR_bad (l := l) fun r p u tag' hg => ?_]
    · exact read_none w A c l hr hc hb hl (by rw [hF]; exact he)
    · have e1 := (good_F hg).1
      rw [hF] at e1
      exact he (congrArg (fun q => q.2.2) e1)
end Go.Proofs.Ytmidmdbhbhjcdaa.By
