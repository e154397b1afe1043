/-
  wire.FromBytes: the way through. Condition: bytes are bytes.
-/
import Derived.Test.YtklcggcejaecdaaWg
namespace Go.Proofs.Ytklcggcejaecdaa.Wi
open Go.RowKit Go.Shelf Go.Proofs.Ytklcggcejaecdaa.H Go.Proofs.Ytklcggcejaecdaa.Uv Go.Proofs.Ytklcggcejaecdaa.Fr Go.Proofs.YtklcggcejaecdaaW.PrintWords Go.Proofs.YtklcggcejaecdaaW.PrintLast Go.Proofs.YtklcggcejaecdaaW.PrintMore
set_option linter.unusedVariables false
set_option linter.unusedSimpArgs false
attribute [local go_sem] Oper.semAt_some
theorem fromF_good {l x0 T1 T2 x2 x3 t3 : List Int} {L : List AddrP} {kd qv : Int} {T3 b3 bo : Bool} (e1 : numR l false = (kd, x0, false)) (hk : kd ≤ 18) (e2 : numsR (numsF kd).toNat x0 false = (T1, T2, T3)) (e3 : numR T2 T3 = (qv, x2, false)) (hq : qv ≤ 8) (e4 : addrsF qv.toNat x2 false = (L, x3, b3)) (e5 : bodyR x3 b3 = (t3, bo)) :
    fromF l = if bo = true ∨ mayM kd T1 L t3 = false then badF else (kd, T1, L, t3, 0) := by
  unfold fromF
  rw [e1]
  dsimp only
  rw [if_neg (fun h => h.elim (fun h => by cases h) (fun h => by omega)), e2]
  dsimp only
  rw [e3]
  dsimp only
  rw [if_neg (fun h => h.elim (fun h => by cases h) (fun h => by omega)), e4]
  dsimp only
  rw [e5]
def FbPost (w : World) (F : Int × List Int × List AddrP × List Int × Int) (e : Ending) (w' : World) : Prop :=
  ∃ v1 v2 v3 : Value, e = .returned (.tuple #[.agg #[.int .i64 F.1, v1, v2, v3], .int .i64 F.2.2.2.2]) ∧ (Kd.int .u64).R 39 w' w.heap.size (fun _ => True) v1 F.2.1 ∧ dA.R 45 w' w.heap.size (fun _ => True) v2 F.2.2.1 ∧ (Kd.int .u8).R 5 w' w.heap.size (fun _ => True) v3 F.2.2.2.1 ∧ Below w.heap.size w w'
theorem R_Cx {α : Type} {d : Kd α} {e m c base : Nat} {w : World} {ok : Nat → Prop} {A : Option Addr} {xs : List α} (h : d.R e w base ok (.slice A m c) xs) : d.C w A m xs := by
  obtain ⟨A', c', hv, _, hC⟩ := Kd.R_reads h
  injection hv with h1 h2 h3
  subst h1 h2
  exact hC
theorem R_stays {α : Type} {d : Kd α} {e base : Nat} {X Y : World} {v : Value} {xs : List α} (h : d.R e X base (fun _ => True) v xs) (hm : ∀ (k : Nat) (cs : Array Value) (q : Nat), q ∈ e :: d.E → X.heap[k]? = some (Obj.cells cs q (0, 0)) → Y.heap[k]? = X.heap[k]?) : d.R e Y base (fun _ => True) v xs :=
  Kd.R_mono (Kd.R_step (Kd.R_bound h) (fun k hk hlt => by
    obtain ⟨_, _, _, q, hq, cells, hc⟩ := hk
    exact hm k cells q hq hc)) (fun _ _ => trivial)
theorem fb_end {w X : World} {D : Nat} (a b c d : Value) (hr : X.heap[w.heap.size]? = some (.cells #[.int .i64 0, .slice none 0 0, .slice none 0 0, .slice none 0 0] 26 (0, 0))) (hD : X.heap[D]? = some (.deferred (some []))) (hDw : w.heap.size ≤ D) (hB : Below w.heap.size w X) (Y : World) (hY : (((X.setCell ⟨w.heap.size, 0, none⟩ a).setCell ⟨w.heap.size, 1, none⟩ b).setCell ⟨w.heap.size, 2, none⟩ c).setCell ⟨w.heap.size, 3, none⟩ d = Y) :
    Y.heap[D]? = some (.deferred (some [])) ∧ (Y.putObj D (.deferred none)).heap[w.heap.size]? = some (.cells #[a, b, c, d] 26 (0, 0)) ∧ Below w.heap.size w (Y.putObj D (.deferred none)) ∧
      ∀ {α : Type} (dd : Kd α) (e : Nat) (v : Value) (xs : List α), (∀ q ∈ e :: dd.E, q ≠ 26) → dd.R e X w.heap.size (fun _ => True) v xs → dd.R e (Y.putObj D (.deferred none)) w.heap.size (fun _ => True) v xs := by
  have hne : D ≠ w.heap.size := fun e => by rw [e, hr] at hD; cases hD
  have hYD : Y.heap[D]? = some (.deferred (some [])) := by
    rw [← hY]
    exact (Below.heap_setCell _ _ _ _ hne).trans ((Below.heap_setCell _ _ _ _ hne).trans ((Below.heap_setCell _ _ _ _ hne).trans ((Below.heap_setCell _ _ _ _ hne).trans hD)))
  have hYr : Y.heap[w.heap.size]? = some (.cells #[a, b, c, d] 26 (0, 0)) := by
    rw [← hY]; exact blk_put (blk_put (blk_put (blk_put hr 0 _ rfl) 1 _ rfl) 2 _ rfl) 3 _ rfl
  have hBY : Below w.heap.size w Y := by
    rw [← hY]
    exact (((hB.setCell (p := ⟨w.heap.size, 0, none⟩) (Nat.le_refl _) _).setCell (p := ⟨w.heap.size, 1, none⟩) (Nat.le_refl _) _).setCell (p := ⟨w.heap.size, 2, none⟩) (Nat.le_refl _) _).setCell (p := ⟨w.heap.size, 3, none⟩) (Nat.le_refl _) _
  refine ⟨hYD, (World.putObj_heap_other (Ne.symm hne)).trans hYr, hBY.trans (belowK_b (w := w) (Nat.le_refl _) _ D _ _ hDw hYD rfl rfl), fun dd e v xs hE h => R_stays h (fun k cs q hq hk => ?_)⟩
  have hkD : k ≠ D := fun e => by rw [e, hD] at hk; cases hk
  have hkr : k ≠ w.heap.size := fun e => by
    rw [e, hr] at hk
    injection hk with hk
    injection hk with _ hk
    exact hE q hq hk.symm
  rw [← hY]
  exact (World.putObj_heap_other hkD).trans ((Below.heap_setCell _ _ _ _ hkr).trans ((Below.heap_setCell _ _ _ _ hkr).trans ((Below.heap_setCell _ _ _ _ hkr).trans (Below.heap_setCell _ _ _ _ hkr))))
set_option maxRecDepth 100000 in
set_option maxHeartbeats 4000000 in
theorem fb_c (w : World) (A : Option Addr) (n c : Nat) (l : List Int) (hn : n = l.length) (hr : Kd.C (Kd.int .u8) w A n l) (hc : n ≤ c) (hb : Bytes l) (hl : n ≤ 1000000000) (h1 : (numR l false).2.2 = false ∧ (numR l false).1 ≤ 18) (h2 : (numR (numsR (numsF (numR l false).1).toNat (numR l false).2.1 false).2.1 (numsR (numsF (numR l false).1).toNat (numR l false).2.1 false).2.2).2.2 = false ∧ (numR (numsR (numsF (numR l false).1).toNat (numR l false).2.1 false).2.1 (numsR (numsF (numR l false).1).toNat (numR l false).2.1 false).2.2).1 ≤ 8) :
    Calls Try.prog 18 #[.slice A n c] w fun e w' => FbPost w (fromF l) e w' := by
  obtain ⟨W1, hW1⟩ : ∃ W1, (w.alloc (.cells #[.int .i64 0, .slice none 0 0, .slice none 0 0, .slice none 0 0] 26)).alloc (.cells #[.slice A n c, .bool false] 58) = W1 := ⟨_, rfl⟩
  have hb1 : Below w.heap.size w W1 := by rw [← hW1]; exact ((Below.refl _ w).alloc (Nat.le_refl _) _).alloc (by simp) _
  have hg1 : W1.heap[w.heap.size + 1]? = some (.cells #[.slice A n c, .bool false] 58 (0, 0)) := by
    rw [← hW1]; have h := heap_alloc_new (w.alloc (.cells #[.int .i64 0, .slice none 0 0, .slice none 0 0, .slice none 0 0] 26)) (.cells #[.slice A n c, .bool false] 58); rw [World.size_alloc] at h; exact h
  have hr1 : W1.heap[w.heap.size]? = some (.cells #[.int .i64 0, .slice none 0 0, .slice none 0 0, .slice none 0 0] 26 (0, 0)) := by
    rw [← hW1]; exact (Below.heap_alloc _ _ _ (by simp)).trans (heap_alloc_new w _)
  have hR1 : RdAt w W1 (w.heap.size + 1) l false := ⟨A, c, by rw [← hn]; exact hg1, by omega, fun V hV => by rw [← hn]; exact Kd.Heap.C (Kd.heap_int _) hV hr⟩
  have K2 := number_calls w W1 (w.heap.size + 1) l false hR1 (Same.below hb1) hb
  have hlr : w.heap.size < W1.heap.size := (Array.getElem?_eq_some_iff.1 hr1).1
  obtain ⟨nr1, nr2, nr3⟩ := numR_in (b := false) hb
  obtain ⟨⟨kd, x0, b0⟩, hq⟩ : ∃ q, numR l false = q := ⟨_, rfl⟩
  rw [hq] at K2 nr1 nr2 nr3 h1 h2
  dsimp only at K2 nr1 nr2 nr3 h1 h2
  obtain ⟨h1, hk18⟩ := h1
  subst h1
  have b18 : decide (18 < kd) = false := decide_eq_false (by omega)
  have ekd : IntKind.i64.wrap kd = kd := IntWalk.i64_in _ (by omega)
  obtain ⟨nk, hnk⟩ : ∃ n, numsF kd = n := ⟨_, rfl⟩
  have hn6 := numsF_le kd
  have KN := fun W => nums_at W kd
  rw [hnk] at KN hn6 h2
  obtain ⟨cnt, hcnt⟩ : ∃ m, nk.toNat = m := ⟨_, rfl⟩
  have hmx : (if nk < 0 then (0 : Int) else nk) = (cnt : Int) := by split <;> omega
  have hc6 : cnt ≤ 6 := by omega
  rw [hcnt] at h2
  obtain ⟨⟨T1, T2, T3⟩, hT⟩ : ∃ q, numsR cnt x0 false = q := ⟨_, rfl⟩
  obtain ⟨tn1, tn2, tn3, tn4⟩ := numsR_in cnt (b := false) nr2
  rw [hT] at h2 tn1 tn2 tn3 tn4
  dsimp only at h2 tn1 tn2 tn3 tn4
  obtain ⟨⟨qv, x2, b2⟩, hQ⟩ : ∃ q, numR T2 T3 = q := ⟨_, rfl⟩
  obtain ⟨qn1, qn2, qn3⟩ := numR_in (b := T3) tn3
  rw [hQ] at h2 qn1 qn2 qn3
  dsimp only at h2 qn1 qn2 qn3
  have HE1 := Lib.hid hq
  have HE2 := Lib.hid (show numsR (numsF kd).toNat x0 false = (T1, T2, T3) by rw [hnk, hcnt]; exact hT)
  have KN := Lib.hid KN
  have K2 := Lib.hid K2
  have HB1 := Lib.hid hb1
  have HR1 := Lib.hid hr1
  have HT := Lib.hid hT
  have HQ := Lib.hid hQ
  have HX0 := Lib.hid nr2
  have HT1L := Lib.hid tn1
  have HT1R := Lib.hid tn2
  have HT2B := Lib.hid tn3
  have HX2B := Lib.hid qn2
  have HX2L := Lib.hid (show x2.length ≤ n by omega)
  have H2 := Lib.hid h2
  clear h2
  clear hb1 hg1 hr1 hR1 nr1 nr2 nr3 hq hnk hn6 hcnt hT hQ tn1 tn2 tn3 tn4 qn2 qn3 hr hb hn
  refine (callsIn_wide (n := 8)).1 ?_
  refine callsIn_of_wp_marks Try.func18 rfl trivial (wpIn_wide.2 ?_) rfl
  simp only [Try.ntmps18, List.size_toArray, List.length_cons, List.length_nil, Nat.reduceAdd, Nat.reduceSub, Array.replicate_succ, Array.replicate_zero, List.push_toArray, List.append_toArray, List.nil_append, List.cons_append]
  go_upto_region 5 with (go_at_call 35; refine K2.out.mono ?_; rintro e w2 ⟨rfl, hR2, ho2⟩; have HB2 := Lib.hid (OffG.since HB1.out (Nat.le_succ _) ho2); have HR2 := Lib.hid (ho2.blk HR1.out (by omega)); have HRD2 := Lib.hid hR2; obtain ⟨A2, c2, hg2, _⟩ := hR2; have p1 := (blk_cell hg2 1).trans rfl; clear ho2 hg2)
  clear hW1
  go_upto_region 6 with fail
  clear p1
  obtain ⟨W3, hW3⟩ : ∃ W3, w2.alloc (.cells #[.int .i64 kd, .slice none 0 0, .slice none 0 0, .slice none 0 0] 26) = W3 := ⟨_, rfl⟩
  have HM3 := Lib.hid (show MidV w (w.heap.size + 1) w2.heap.size kd (.slice none 0 0) [] x0 false W3 from by
    have hb := (Below.refl w2.heap.size w2).alloc (Nat.le_refl _) (.cells #[.int .i64 kd, .slice none 0 0, .slice none 0 0, .slice none 0 0] 26)
    rw [hW3] at hb
    exact ⟨⟨Nat.lt_succ_self _, HRD2.out.lt⟩, HRD2.out.step (hb.block _ HRD2.out.lt), by rw [← hW3]; exact heap_alloc_new w2 _, Kd.R_nil _ _ _ _ _, blk_step HR2.out hb, HB2.out.trans (hb.mono HB2.out.size)⟩)
  obtain ⟨⟨m0, m1⟩, _, _⟩ := HM3.out.cells
  rw [hW3]
  clear hW3
  go_wp2_with (go_at_call 16; refine (KN.out _).mono ?_; rintro e w4 ⟨rfl, hb4⟩; have HM4 := Lib.hid (HM3.out.step hb4); clear hb4)
  clear m0 m1
  obtain ⟨gm, hgm⟩ : ∃ gm, w2.heap.size = gm := ⟨_, rfl⟩
  rw [hgm] at HM4
  rw [hgm]
  clear hgm HM3
  go_loopg [30] cnt (fun kq v30 wr => ∃ (i : Nat) (N x : List Int) (b : Bool) (v : Value), v30 = .int .i64 i ∧ i + kq = cnt ∧ Hid (N.length = i) ∧ Hid (MidV w (w.heap.size + 1) gm kd v N x b wr) ∧ Hid (Bytes x) ∧ Hid (N ++ (numsR kq x b).1 = T1) ∧ Hid ((numsR kq x b).2 = (T2, T3)))
  case atStart => exact ⟨0, [], x0, false, _, rfl, by omega, Lib.hid rfl, HM4, HX0, Lib.hid (by rw [HT.out]; rfl), Lib.hid (by rw [HT.out])⟩
  case round =>
    obtain ⟨i, N, x, b, v, rfl, hik, HNL, HM, HBx, HP1, HP2⟩ := hrel
    cases gk with
    | succ k1 =>
      have b0 : decide ((i : Int) < (cnt : Int)) = true := decide_eq_true (by omega)
      have hlt : i < cnt := by omega
      obtain ⟨Av, cv, hv, _, _⟩ := Kd.R_reads HM.out.2.2.2.1
      rw [HNL.out] at hv
      subst hv
      have e1 := HP1.out
      have e2 := HP2.out
      simp only [numsR] at e1 e2
      have KQ := number_calls w wr.drew (w.heap.size + 1) x b (HM.out.2.1.step rfl) (Same.below HM.out.2.2.2.2.2.drew) HBx.out
      have hx' := (numR_in (b := b) HBx.out).2.1
      obtain ⟨⟨r, x', b'⟩, hq⟩ : ∃ q, numR x b = q := ⟨_, rfl⟩
      rw [hq] at KQ e1 e2 hx'
      dsimp only at KQ e1 e2 hx'
      have KQ := Lib.hid KQ
      have E1 := Lib.hid e1
      have E2 := Lib.hid e2
      have HX' := Lib.hid hx'
      obtain ⟨⟨m0, m1⟩, m2, m3⟩ := HM.out.cells
      have HOD := Lib.hid (show OffG (w.heap.size + 1) wr wr.drew from OffG.below (show Below wr.heap.size wr wr.drew from ⟨rfl, rfl, rfl, Nat.le_refl _, fun _ _ => rfl⟩))
      clear hq e1 e2 hx'
      go_upto_region 8 with fail
      refine wp_calm ?_
      go_region_law (first
        | (go_simp; go_at_call 35; refine KQ.out.mono ?_; rintro e w5 ⟨rfl, hR5, ho5⟩; dsimp only; have HM5 := Lib.hid (HM.out.num (HOD.out.trans ho5) hR5); obtain ⟨⟨n0, n1⟩, n2, n3⟩ := HM5.out.cells; have n5 : (w5.alloc (.cells #[.int .u64 r] 39)).cell? ⟨gm, 1, none⟩ = some (.slice Av i cv) := (World.cell?_alloc_lt _ _ _ (World.block_lt_of_cell? _ _ n1)).trans n1; clear hR5 ho5)
        | (refine Kd.R_append_step (Kd.int .u64) (w0 := w) w.heap.size (by rfl) (.tmp 33) (.tmp 36) 22 39 (.int .u64 0) 8 rfl Try.underlying22 info64 rfl (by decide) (by decide) (.slice Av i cv) N r [.int .u64 r] (fun _ => True) (fun _ => False) (by simp [Act.eval]) (by simp [Act.eval]) rfl (fun _ hk => hk.elim) (fun _ _ => trivial) HM5.out.2.2.2.1 HM5.out.2.2.2.2.2 HM5.out.2.2.2.2.2.size (by have := HNL.out; omega) ?_; intro v6 w6 ho6 hb6 hg6 hat6; obtain ⟨A6, cp6, hv6, _, _⟩ := Kd.R_reads ho6; obtain ⟨j6, hj6⟩ : ∃ j, (N ++ [r]).length = j := ⟨_, rfl⟩; rw [hj6] at hv6; subst hv6; have HJ6 := Lib.hid hj6; obtain ⟨hgm6, hM6⟩ := HM5.out.app ho6 hb6 hg6; have c6 := (blk_cell hgm6 1).trans rfl; have f6 := blk_frozen hgm6 1; have HM6 := Lib.hid hM6; clear ho6 hb6 hg6 hat6 hgm6 hM6 hj6))
      all_goals
        go_wp2_with fail
        go_roundg k1
        case measure => omega
        case rel => exact ⟨i + 1, N ++ [r], x', b', _, by go_num, by omega, Lib.hid (by rw [List.length_append, HNL.out]; rfl), HM6, HX', Lib.hid (by rw [List.append_assoc]; exact E1.out), E2⟩
    | zero =>
      have b0 : decide ((i : Int) < (cnt : Int)) = false := decide_eq_false (by omega)
      have hlt : ¬ i < cnt := by omega
      have e1 := HP1.out
      have e2 := HP2.out
      simp only [numsR, List.append_nil, Prod.mk.injEq] at e1 e2
      obtain ⟨rfl, rfl⟩ := e2
      subst e1
      have KQ := number_calls w wr (w.heap.size + 1) x b HM.out.2.1 (Same.below HM.out.2.2.2.2.2) HBx.out
      rw [HQ.out] at KQ
      dsimp only at KQ
      have KQ := Lib.hid KQ
      clear HP1 HP2 HT
      obtain ⟨A1, c1, hv, _, _⟩ := Kd.R_reads HM.out.2.2.2.1
      obtain ⟨n1, hn1⟩ : ∃ m, N.length = m := ⟨_, rfl⟩
      rw [hn1] at hv
      subst hv
      have HN1 := Lib.hid hn1
      obtain ⟨hb2, hq8⟩ := H2.out
      subst hb2
      obtain ⟨cn, hcn⟩ : ∃ k : Nat, qv = (k : Int) := ⟨qv.toNat, by omega⟩
      subst hcn
      have b8 : decide (8 < (cn : Int)) = false := decide_eq_false (by omega)
      have ecn : IntKind.i64.wrap (cn : Int) = cn := IntWalk.i64_in _ (by omega)
      have hcn8 : cn ≤ 8 := by omega
      obtain ⟨⟨L, x3, b3⟩, hA⟩ : ∃ q, addrsF cn x2 false = q := ⟨_, rfl⟩
      obtain ⟨an1, an2, an3, an4⟩ := addrsF_in cn (b := false) HX2B.out
      rw [hA] at an1 an2 an3 an4
      dsimp only at an1 an2 an3 an4
      obtain ⟨⟨t3, bo⟩, hBo⟩ : ∃ q, bodyR x3 b3 = q := ⟨_, rfl⟩
      have HF := Lib.hid (fromF_good HE1.out hk18 HE2.out HQ.out hq8 (by rw [Int.toNat_natCast]; exact hA) hBo)
      have HA := Lib.hid hA
      have HBo := Lib.hid hBo
      have HL2 := Lib.hid an2
      have HX3 := Lib.hid an3
      have hx3 : x3.length ≤ 1000000000 := by have := HX2L.out; omega
      clear hn1 H2 hA an2 an3 an4 hBo HE1 HE2 HQ hq8 qn1
      go_upto_region 11 with (go_at_call 35; refine KQ.out.mono ?_; rintro e w5 ⟨rfl, hR5, ho5⟩; have HM5 := Lib.hid (HM.out.num ho5 hR5); clear hR5 ho5)
      obtain ⟨_, _, n3⟩ := HM5.out.cells
      go_wp2_with (go_at_call 36; refine (addrs_calls _ _ _).mono ?_; rintro e w6 ⟨rfl, rfl⟩)
      clear n3
      obtain ⟨W6, hW6⟩ : ∃ W6, (w5.alloc (.cells #[.pointer (some ⟨w.heap.size + 1, 0, none⟩)] 56)).alloc (.cells #[.int .i64 cn] 3) = W6 := ⟨_, rfl⟩
      have hb6 : Below w5.heap.size w5 W6 := by rw [← hW6]; exact ((Below.refl _ w5).alloc (Nat.le_refl _) _).alloc (by simp) _
      have hs6 : W6.heap.size ≤ w5.heap.size + 2 := by rw [← hW6]; simp
      have hs6' : w5.heap.size + 2 ≤ W6.heap.size := by rw [← hW6]; simp
      have cBr : W6.cell? ⟨w5.heap.size, 0, none⟩ = some (.pointer (some ⟨w.heap.size + 1, 0, none⟩)) := by
        have h : W6.heap[w5.heap.size]? = some (.cells #[.pointer (some ⟨w.heap.size + 1, 0, none⟩)] 56 (0, 0)) := by rw [← hW6]; exact (Below.heap_alloc _ _ _ (by simp)).trans (heap_alloc_new w5 _)
        exact (blk_cell h 0).trans rfl
      have cBn : W6.cell? ⟨w5.heap.size + 1, 0, none⟩ = some (.int .i64 cn) := by
        have h : W6.heap[w5.heap.size + 1]? = some (.cells #[.int .i64 cn] 3 (0, 0)) := by
          rw [← hW6]; have h := heap_alloc_new (w5.alloc (.cells #[.pointer (some ⟨w.heap.size + 1, 0, none⟩)] 56)) (.cells #[.int .i64 cn] 3); rw [World.size_alloc] at h; exact h
        exact (blk_cell h 0).trans rfl
      have HM6 := Lib.hid (HM5.out.step hb6)
      have hgl : w.heap.size + 1 < w5.heap.size := HM5.out.2.1.lt
      have hgml : gm < w5.heap.size := (Array.getElem?_eq_some_iff.1 HM5.out.2.2.1).1
      have hggm : w.heap.size + 1 < gm := HM5.out.1.2
      rw [hW6]
      clear hW6
      obtain ⟨S, hS⟩ : ∃ S : Nat → Prop, S = fun b => b < w.heap.size ∨ b = w.heap.size + 1 ∨ b = w5.heap.size ∨ b = w5.heap.size + 1 := ⟨_, rfl⟩
      have hSlt : ∀ b, S b → b < W6.heap.size := fun b hb => by rw [hS] at hb; rcases hb with h | h | h | h <;> omega
      have hSm : ∀ b, S b → b ≠ gm := fun b hb => by rw [hS] at hb; rcases hb with h | h | h | h <;> omega
      have seq := addrs1_told 7 (by omega) S w W6 (w5.heap.size + 1) w5.heap.size (w.heap.size + 1) cn x2 false HM6.out.2.1 (fun V hV b hb => (hV.2 b ⟨by rw [hS]; exact .inl hb, by omega⟩).trans (HM6.out.2.2.2.2.2.block b hb)) (by rw [hS]; exact .inr (.inl rfl)) (by rw [hS]; exact .inr (.inr (.inr rfl))) (by rw [hS]; exact .inr (.inr (.inl rfl))) hSlt cBn cBr HX2B.out (by omega) (by omega) (by omega)
      rw [HA.out] at seq
      have HSEQ := Lib.hid seq
      have HSlt := Lib.hid hSlt
      have HSm := Lib.hid hSm
      clear seq hSlt hSm hS cBn cBr hb6 HM4 HM
      refine (wpIn_wide (n := 8)).1 ?_
      refine range_told2 rfl (by omega) (gf := 45) (lb := #[.pointer (some ⟨w5.heap.size + 1, 0, none⟩), .pointer (some ⟨w5.heap.size, 0, none⟩)]) rfl trivial (enters_of Try.func45 (by kernel_rfl) rfl)
        HSEQ.out KeepS.trans (fun V l o o' hl h _ _ => KeepS.put V l o o' (fun hb => by have := HSlt.out l hb; omega) h) (fun A B hs hb => KeepS.below hb (fun b hb' => by have := HSlt.out b hb'; omega)) (Below.refl _ _) (by omega) (fun _ => rfl)
        (fun xs V l o o' h1 h2 hE => hE.step (World.putObj_heap_other (fun e => by
          obtain ⟨A, c, hg, _⟩ := hE
          rw [e, h1] at hg
          injection hg with hg
          rw [hg] at h2
          cases h2)))
        (MidI w W6.heap.size (w.heap.size + 1) gm kd (.slice A1 n1 c1) N) (MidI.own w _ _ _ kd _ N (by omega)) (fun pre V i u h => h.set_g ⟨by omega, hggm⟩ i u) (MidI.zero HM6.out)
        (fun (x : AddrP) (Bx : Nat) (V : World) => V.heap[Bx]? = some (Obj.cells #[.int .u32 x.1, .int .i64 x.2] 45 (0, 0)))
        ?hAx ?F1 ?assign ?body ?done
      case hAx =>
        intro x Bx V l o o' h1 h2 h3
        refine (World.putObj_heap_other (fun e => ?_)).trans h3
        rw [e, h1] at h3
        injection h3 with h3
        rw [h3] at h2
        cases h2
      case assign =>
        intro l pre x V K hI hsV hK
        have hnew : (V.alloc (.cells #[.int .u32 x.1, .int .i64 x.2] 45)).heap[V.heap.size]? = some (.cells #[.int .u32 x.1, .int .i64 x.2] 45 (0, 0)) := heap_alloc_new V _
        have hbel : Below V.heap.size V (V.alloc (.cells #[.int .u32 x.1, .int .i64 x.2] 45)) := (Below.refl _ V).alloc (Nat.le_refl _) _
        have HNEW := Lib.hid hnew
        have HBEL := Lib.hid hbel
        have HKK := Lib.hid hK
        clear hnew hbel hK
        gi_wp2
        obtain ⟨Bx, hBx⟩ : ∃ B, V.heap.size = B := ⟨_, rfl⟩
        rw [hBx]
        exact HKK.out Bx _ HBEL.out (by rw [← hBx]; exact HNEW.out)
      case body =>
        rintro lp pre ⟨x1, y1⟩ Bx V ⟨⟨v2, cs, i1, i2, i3⟩, i4, i5, i6, i7, i8⟩ hBx hsV hlt
        dsimp only at hBx
        obtain ⟨Av, cv, hv2⟩ := own_slice i2
        have HAPP := Lib.hid (fun (U w1 : World) (v' : Value) (hU : Below V.heap.size V U) (ho : w1.ownsRow W6.heap.size 45 2 v' (pre.length + 1) (cs ++ [.int .u32 x1, .int .i64 y1])) (hgr : U.grownBy w1 v2.ownBlock) => MidI.app (x := (x1, y1)) ⟨by omega, hggm⟩ (by omega) i1 i2 i3 i4 i5 i6 i7 i8 hU ho hgr)
        obtain ⟨j, hj⟩ : ∃ j, pre.length = j := ⟨_, rfl⟩
        rw [hj] at hv2 i2 hlt HAPP
        subst hv2
        obtain ⟨i0', hi0, hz0, hsz0, hby0⟩ := info_parts infoA
        have HI0 := Lib.hid hi0
        have HZ0 := Lib.hid hz0
        have HS0 := Lib.hid hsz0
        have HY0 := Lib.hid hby0
        have HROW := Lib.hid i2
        have HV8 := Lib.hid i8
        have q2 : V.cell? ⟨gm, 2, none⟩ = some (.slice Av j cv) := (blk_cell i1 2).trans rfl
        have x0 : V.cell? ⟨Bx, 0, none⟩ = some (.int .u32 x1) := (blk_cell hBx 0).trans rfl
        have x1' : V.cell? ⟨Bx, 1, none⟩ = some (.int .i64 y1) := (blk_cell hBx 1).trans rfl
        have HLT := Lib.hid hlt
        have HBU := Lib.hid (show Below V.heap.size V (V.alloc (.cells #[.int .u32 x1, .int .i64 y1] 45)) from (Below.refl _ V).alloc (Nat.le_refl _) _)
        have HNEW := Lib.hid (show (V.alloc (.cells #[.int .u32 x1, .int .i64 y1] 45)).heap[V.heap.size]? = some (.cells #[.int .u32 x1, .int .i64 y1] 45 (0, 0)) from heap_alloc_new V _)
        have hj8 : j < cn := hlt
        clear hi0 hz0 hsz0 hby0 i1 i2 i3 i4 i5 i6 i7 i8 hBx hj hlt
        gi_wp2_with (gi_at_builtin; refine wpListIn_append_own _ rfl (.tmp 57) (.tmp 59) 23 rfl W6.heap.size 45 i0' (.agg #[.int .u32 0, .int .i64 0]) 2 16 Try.underlying23 HI0.out HZ0.out HS0.out HY0.out rfl (by decide) (.slice Av j cv) j cs rfl (HROW.out.alloc _) ⟨V.heap.size, 0, none⟩ 1 1 [.int .u32 x1, .int .i64 y1] rfl rfl (World.news_of_block HNEW.out) (by simp [Value.oneCell']) (by unfold maxLen; omega) (by omega) (by have := HV8.out; simp; omega) ?_; intro v' w1' hown' hgrow _; obtain ⟨hgm1, hM1, hV1⟩ := HAPP.out _ w1' v' HBU.out hown' hgrow; obtain ⟨g', cap', hv'⟩ := ownsRow_succ hown'; subst hv'; have c9 := (blk_cell hgm1 2).trans rfl; have f9 := blk_frozen hgm1 2; have HM1 := Lib.hid hM1; have HV1 := Lib.hid hV1; clear hown' hgrow hgm1 hM1 hV1)
        refine ⟨(KeepsOthers.of_grownBy HV1.out (fun k o e hk => ?_)).trans (KeepsOthers.setCell _ _ _), ⟨?_, fun b hb => ?_⟩, HM1.out⟩
        · obtain ⟨cells, hc⟩ := own_typed HROW.out k e
          rw [hc] at hk
          injection hk with hk
          rw [← hk]
          rfl
        · have := HV1.out.size
          simp [World.setCell]
          omega
        · have h1 := HSlt.out b hb
          exact (Below.heap_setCell _ _ _ _ (HSm.out b hb)).trans (HV1.out.block b (by have := HV8.out; omega) (fun e => by have := own_base HROW.out b e.symm; omega))
      case done =>
        rintro D xs V hD hxs hE ⟨⟨v2, cs, i1, i2, i3⟩, i4, i5, ⟨ds, i6⟩, i7, i8⟩ hK2
        subst hxs
        dsimp only at hE
        have hRA := Kd.R_lower (own_dA i2 i3) (show w.heap.size ≤ W6.heap.size by omega)
        obtain ⟨A2, c2, hv2, hcv2, hC2⟩ := Kd.R_reads hRA
        obtain ⟨n2, hn2⟩ : ∃ m, xs.length = m := ⟨_, rfl⟩
        obtain ⟨A1', c1', hv1, hcv1, hC1⟩ := Kd.R_reads i4
        rw [HN1.out] at hv1 hC1
        rw [hn2] at hv2 hC2
        subst hv2
        obtain rfl : A1 = A1' := by injection hv1
        have KB := body_calls w V (w.heap.size + 1) x3 b3 hE (Same.below i7) HX3.out hx3
        rw [HBo.out] at KB
        dsimp only at KB
        have KB := Lib.hid KB
        have HC1 := Lib.hid hC1
        have HC2 := Lib.hid hC2
        have H1 := Lib.hid i1
        have H4 := Lib.hid i4
        have H5 := Lib.hid i5
        have H6 := Lib.hid i6
        have H7 := Lib.hid i7
        have HRA := Lib.hid hRA
        have HN2 := Lib.hid hn2
        have HK2 := Lib.hid hK2
        have hDw : w.heap.size ≤ D := by omega
        have hgne : gm ≠ w.heap.size + 1 := by omega
        have hgne' : w.heap.size + 1 ≠ gm := by omega
        have hl2 : n2 ≤ 8 := by omega
        have hl1 : n1 ≤ 6 := by have := HN1.out; have := HNL.out; omega
        clear hE i1 i2 i3 i4 i5 i6 i7 hK2 hRA hC1 hC2 hcv1 hcv2 hn2 hv1
        go_upto_region 17 with (go_at_call 37; refine KB.out.mono ?_; rintro e w7 ⟨⟨v3, rfl, hR3⟩, hb7, ho7⟩; obtain ⟨A3, c3, hv3, _, _⟩ := Kd.R_reads hR3; obtain ⟨n3, hn3⟩ : ∃ m, t3.length = m := ⟨_, rfl⟩; rw [hn3] at hv3; subst hv3; have HN3 := Lib.hid hn3; have HR3 := Lib.hid hR3; have hgm7 := ho7.blk H1.out hgne; have HGM7 := Lib.hid hgm7; have q3 := (blk_cell hgm7 3).trans rfl; have f3 := blk_frozen hgm7 3; have HO7 := Lib.hid ho7; have HB7 := Lib.hid hb7; clear hR3 hb7 ho7 hn3 hgm7)
        obtain ⟨X, hX⟩ : ∃ X, w7.setCell ⟨gm, 3, none⟩ (.slice A3 n3 c3) = X := ⟨_, rfl⟩
        have hXm : X.heap[gm]? = some (.cells #[.int .i64 kd, .slice A1 n1 c1, .slice A2 n2 c2, .slice A3 n3 c3] 26 (0, 0)) := by rw [← hX]; exact blk_put HGM7.out 3 _ rfl
        have hXr : X.heap[w.heap.size]? = some (.cells #[.int .i64 0, .slice none 0 0, .slice none 0 0, .slice none 0 0] 26 (0, 0)) := by rw [← hX]; exact (Below.heap_setCell _ _ _ _ (show w.heap.size ≠ gm by omega)).trans (HO7.out.blk H5.out (by omega))
        have hXD : X.heap[D]? = some (.deferred (some [])) := by
          have h7 : w7.heap[D]? = some (.deferred (some [])) := HO7.out.blk HK2.out (fun e => by have := HK2.out; rw [e, H6.out] at this; cases this)
          rw [← hX]; exact (Below.heap_setCell _ _ _ _ (fun e => by rw [e, HGM7.out] at h7; cases h7)).trans h7
        have hXB : Below w.heap.size w X := by rw [← hX]; exact (OffG.since H7.out (by omega) HO7.out).setCell (p := ⟨gm, 3, none⟩) (by show w.heap.size ≤ gm; omega) _
        have hX1 : (Kd.int .u64).R 39 X w.heap.size (fun _ => True) (.slice A1 n1 c1) N := by rw [← hX]; exact Kd.R_set (R_offG H4.out HO7.out H6.out (by simp [Kd.int, Kd.scalar])) HGM7.out (by simp [Kd.int, Kd.scalar]) 3 _
        have hX2 : dA.R 45 X w.heap.size (fun _ => True) (.slice A2 n2 c2) xs := by rw [← hX]; exact Kd.R_set (R_offG HRA.out HO7.out H6.out (by simp [dA, Kd.pair, Kd.int, Kd.scalar])) HGM7.out (by simp [dA, Kd.pair, Kd.int, Kd.scalar]) 3 _
        have hX3 : (Kd.int .u8).R 5 X w.heap.size (fun _ => True) (.slice A3 n3 c3) t3 := by rw [← hX]; exact Kd.R_mono (Kd.R_set (Kd.R_lower HR3.out H7.out.size) HGM7.out (by simp [Kd.int, Kd.scalar]) 3 _) (fun _ _ => trivial)
        have hXg : X.cell? ⟨w.heap.size + 1, 1, none⟩ = some (.bool bo) := by rw [← hX]; exact (World.cell?_setCell_other _ _ _ _ (fun e => hgne (by injection e))).trans HB7.out
        rw [hX]
        clear hX q3 f3
        have HXm := Lib.hid hXm
        have HXr := Lib.hid hXr
        have HXD := Lib.hid hXD
        have HXB := Lib.hid hXB
        have HX1 := Lib.hid hX1
        have HX2 := Lib.hid hX2
        have HX3' := Lib.hid hX3
        have m0 := (blk_cell hXm 0).trans rfl
        have m1 := (blk_cell hXm 1).trans rfl
        have m2 := (blk_cell hXm 2).trans rfl
        have m3 := (blk_cell hXm 3).trans rfl
        have y0 := (blk_cell hXr 0).trans rfl
        have z0 := blk_frozen hXr 0
        have y1 := (blk_cell hXr 1).trans rfl
        have z1 := blk_frozen hXr 1
        have y2 := (blk_cell hXr 2).trans rfl
        have z2 := blk_frozen hXr 2
        have y3 := (blk_cell hXr 3).trans rfl
        have z3 := blk_frozen hXr 3
        clear hXm hXr hXD hXB hX1 hX2 hX3
        cases bo with
        | true =>
          have HFF := Lib.hid (show fromF l = badF by rw [HF.out, if_pos (.inl rfl)])
          go_wp2
          obtain ⟨Y, hY⟩ : ∃ Y, (((X.setCell ⟨w.heap.size, 0, none⟩ (.int .i64 0)).setCell ⟨w.heap.size, 1, none⟩ (.slice none 0 0)).setCell ⟨w.heap.size, 2, none⟩ (.slice none 0 0)).setCell ⟨w.heap.size, 3, none⟩ (.slice none 0 0) = Y := ⟨_, rfl⟩
          obtain ⟨k1, k2, k3, k4⟩ := fb_end _ _ _ _ HXr.out HXD.out hDw HXB.out Y hY
          rw [hY]
          refine ⟨by simp, .inl ⟨_, _, rfl, run_takeDeferred k1, ?_⟩⟩
          refine ⟨_, results_ct rfl _ _ w.heap.size 26 #[.int .i64 0, .slice none 0 0, .slice none 0 0, .slice none 0 0] (0, 0) _ rfl k2 Try.underlying26 rfl (by kernel_rfl), ?_⟩
          rw [HFF.out]
          exact ⟨_, _, _, rfl, Kd.R_nil _ _ _ _ _, Kd.R_nil _ _ _ _ _, Kd.R_nil _ _ _ _ _, k3⟩
        | false =>
          obtain ⟨qm, hqm⟩ : ∃ q, mayM kd N xs t3 = q := ⟨_, rfl⟩
          have KW := wmay_calls X kd A1 n1 c1 A2 n2 c2 A3 n3 c3 N xs t3 HN1.out.symm HN2.out.symm HN3.out.symm (R_Cx HX1.out) (R_Cx HX2.out) (fun v hv => by have := HT1R.out v hv; omega) HL2.out (by omega) (by omega)
          rw [hqm] at KW
          unfold msgC at KW
          have KW := Lib.hid KW
          have HQM := Lib.hid hqm
          clear hqm
          cases qm with
          | false =>
            have HFF := Lib.hid (show fromF l = badF by rw [HF.out, if_pos (.inr HQM.out)])
            go_wp2_with (go_at_call 12; refine KW.out.mono ?_; rintro e w9 ⟨rfl, hb9⟩; have HB9 := Lib.hid hb9; have hXm9 := blk_step HXm.out hb9; have hXr9 := blk_step HXr.out hb9; have HXr9 := Lib.hid hXr9; have HXD9 := Lib.hid (blk_step HXD.out hb9); have m0 := (blk_cell hXm9 0).trans rfl; have m1 := (blk_cell hXm9 1).trans rfl; have m2 := (blk_cell hXm9 2).trans rfl; have m3 := (blk_cell hXm9 3).trans rfl; have y0 := (blk_cell hXr9 0).trans rfl; have y1 := (blk_cell hXr9 1).trans rfl; have y2 := (blk_cell hXr9 2).trans rfl; have y3 := (blk_cell hXr9 3).trans rfl; have z0 := blk_frozen hXr9 0; have z1 := blk_frozen hXr9 1; have z2 := blk_frozen hXr9 2; have z3 := blk_frozen hXr9 3; clear hb9 hXm9 hXr9)
            obtain ⟨Y, hY⟩ : ∃ Y, (((w9.setCell ⟨w.heap.size, 0, none⟩ (.int .i64 0)).setCell ⟨w.heap.size, 1, none⟩ (.slice none 0 0)).setCell ⟨w.heap.size, 2, none⟩ (.slice none 0 0)).setCell ⟨w.heap.size, 3, none⟩ (.slice none 0 0) = Y := ⟨_, rfl⟩
            obtain ⟨k1, k2, k3, k4⟩ := fb_end _ _ _ _ HXr9.out HXD9.out hDw (HXB.out.trans (HB9.out.mono HXB.out.size)) Y hY
            rw [hY]
            refine ⟨by simp, .inl ⟨_, _, rfl, run_takeDeferred k1, ?_⟩⟩
            refine ⟨_, results_ct rfl _ _ w.heap.size 26 #[.int .i64 0, .slice none 0 0, .slice none 0 0, .slice none 0 0] (0, 0) _ rfl k2 Try.underlying26 rfl (by kernel_rfl), ?_⟩
            rw [HFF.out]
            exact ⟨_, _, _, rfl, Kd.R_nil _ _ _ _ _, Kd.R_nil _ _ _ _ _, Kd.R_nil _ _ _ _ _, k3⟩
          | true =>
            have HFF := Lib.hid (show fromF l = (kd, N, xs, t3, 0) by rw [HF.out, if_neg (fun h => h.elim (fun h => by cases h) (fun h => by rw [HQM.out] at h; cases h))])
            go_wp2_with (go_at_call 12; refine KW.out.mono ?_; rintro e w9 ⟨rfl, hb9⟩; have HB9 := Lib.hid hb9; have hXm9 := blk_step HXm.out hb9; have hXr9 := blk_step HXr.out hb9; have HXr9 := Lib.hid hXr9; have HXD9 := Lib.hid (blk_step HXD.out hb9); have m0 := (blk_cell hXm9 0).trans rfl; have m1 := (blk_cell hXm9 1).trans rfl; have m2 := (blk_cell hXm9 2).trans rfl; have m3 := (blk_cell hXm9 3).trans rfl; have y0 := (blk_cell hXr9 0).trans rfl; have y1 := (blk_cell hXr9 1).trans rfl; have y2 := (blk_cell hXr9 2).trans rfl; have y3 := (blk_cell hXr9 3).trans rfl; have z0 := blk_frozen hXr9 0; have z1 := blk_frozen hXr9 1; have z2 := blk_frozen hXr9 2; have z3 := blk_frozen hXr9 3; clear hb9 hXm9 hXr9)
            obtain ⟨Y, hY⟩ : ∃ Y, (((w9.setCell ⟨w.heap.size, 0, none⟩ (.int .i64 kd)).setCell ⟨w.heap.size, 1, none⟩ (.slice A1 n1 c1)).setCell ⟨w.heap.size, 2, none⟩ (.slice A2 n2 c2)).setCell ⟨w.heap.size, 3, none⟩ (.slice A3 n3 c3) = Y := ⟨_, rfl⟩
            obtain ⟨k1, k2, k3, k4⟩ := fb_end _ _ _ _ HXr9.out HXD9.out hDw (HXB.out.trans (HB9.out.mono HXB.out.size)) Y hY
            rw [hY]
            refine ⟨by simp, .inl ⟨_, _, rfl, run_takeDeferred k1, ?_⟩⟩
            refine ⟨_, results_ct rfl _ _ w.heap.size 26 #[.int .i64 kd, .slice A1 n1 c1, .slice A2 n2 c2, .slice A3 n3 c3] (0, 0) _ rfl k2 Try.underlying26 rfl (by kernel_rfl), ?_⟩
            rw [HFF.out]
            exact ⟨_, _, _, rfl, k4 _ _ _ _ (by simp [Kd.int, Kd.scalar]) (Kd.R_below HX1.out HB9.out), k4 _ _ _ _ (by simp [dA, Kd.pair, Kd.int, Kd.scalar]) (Kd.R_below HX2.out HB9.out), k4 _ _ _ _ (by simp [Kd.int, Kd.scalar]) (Kd.R_below HX3'.out HB9.out), k3⟩
theorem fb_calls (w : World) (A : Option Addr) (n c : Nat) (l : List Int) (hn : n = l.length) (hr : Kd.C (Kd.int .u8) w A n l) (hc : n ≤ c) (hb : Bytes l) (hl : n ≤ 1000000000) :
    Calls Try.prog 18 #[.slice A n c] w fun e w' => FbPost w (fromF l) e w' := by
  by_cases h1 : (numR l false).2.2 = true ∨ 18 < (numR l false).1
  · have hF : fromF l = badF := by unfold fromF; rw [if_pos h1]
    rw [hF]
    exact (fb_a w A n c l hn hr hc hb hl h1).mono fun e w' ⟨h2, h3⟩ => ⟨_, _, _, h2, Kd.R_nil _ _ _ _ _, Kd.R_nil _ _ _ _ _, Kd.R_nil _ _ _ _ _, h3⟩
  · have g1 : (numR l false).2.2 = false ∧ (numR l false).1 ≤ 18 := ⟨by simpa using fun h => h1 (.inl h), by have : ¬ 18 < (numR l false).1 := fun h => h1 (.inr h); omega⟩
    by_cases h2 : (numR (numsR (numsF (numR l false).1).toNat (numR l false).2.1 false).2.1 (numsR (numsF (numR l false).1).toNat (numR l false).2.1 false).2.2).2.2 = true ∨ 8 < (numR (numsR (numsF (numR l false).1).toNat (numR l false).2.1 false).2.1 (numsR (numsF (numR l false).1).toNat (numR l false).2.1 false).2.2).1
    · have hF : fromF l = badF := by unfold fromF; rw [if_neg h1, if_pos h2]
      rw [hF]
      exact (fb_b w A n c l hn hr hc hb hl g1 h2).mono fun e w' ⟨h2, h3⟩ => ⟨_, _, _, h2, Kd.R_nil _ _ _ _ _, Kd.R_nil _ _ _ _ _, Kd.R_nil _ _ _ _ _, h3⟩
    · exact fb_c w A n c l hn hr hc hb hl g1 ⟨by simpa using fun h => h2 (.inl h), by
        have : ¬ 8 < (numR (numsR (numsF (numR l false).1).toNat (numR l false).2.1 false).2.1 (numsR (numsF (numR l false).1).toNat (numR l false).2.1 false).2.2).1 := fun h => h2 (.inr h)
        omega⟩
end Go.Proofs.Ytklcggcejaecdaa.Wi
