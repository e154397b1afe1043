/-
  wire.FromBytes: the early ways out. Condition: bytes are bytes.
-/
import Derived.Test.YtklcggcejaecdaaWe
import Derived.Deep.RegionLaw
namespace Go.Proofs.Ytklcggcejaecdaa.Wi
open Go.RowKit Go.Shelf Go.Proofs.Ytklcggcejaecdaa.H Go.Proofs.Ytklcggcejaecdaa.Uv Go.Proofs.Ytklcggcejaecdaa.Fr Go.Proofs.YtklcggcejaecdaaW.PrintWords Go.Proofs.YtklcggcejaecdaaW.PrintLast Go.Proofs.YtklcggcejaecdaaW.PrintMore
set_option linter.unusedVariables false
set_option linter.unusedSimpArgs false
attribute [local go_sem] Oper.semAt_some
/-- The message in the making (its numbers so far), beside the reader and the place of the result. -/
def MidV (w : World) (g gm : Nat) (kd : Int) (v : Value) (N : List Int) (x : List Int) (b : Bool) (wr : World) : Prop :=
  (w.heap.size < g ∧ g < gm) ∧ RdAt w wr g x b ∧ wr.heap[gm]? = some (.cells #[.int .i64 kd, v, .slice none 0 0, .slice none 0 0] 26 (0, 0)) ∧ (Kd.int .u64).R 39 wr w.heap.size (fun _ => True) v N ∧ wr.heap[w.heap.size]? = some (.cells #[.int .i64 0, .slice none 0 0, .slice none 0 0, .slice none 0 0] 26 (0, 0)) ∧ Below w.heap.size w wr
theorem info64 : (Try.prog.info? 39).map (fun i => (i.zero, i.size, i.bytes)) = some (some (.int .u64 0), 1, 8) := by kernel_rfl
theorem blk_step {w w' : World} {g : Nat} {o : Obj} (h : w.heap[g]? = some o) (hb : Below w.heap.size w w') : w'.heap[g]? = some o := (hb.block g (Array.getElem?_eq_some_iff.1 h).1).trans h
theorem MidV.step {w wr w' : World} {g gm : Nat} {kd : Int} {v : Value} {N x : List Int} {b : Bool} (h : MidV w g gm kd v N x b wr) (hb : Below wr.heap.size wr w') : MidV w g gm kd v N x b w' := by
  obtain ⟨h0, h1, h2, h3, h4, h5⟩ := h
  exact ⟨h0, h1.step (hb.block _ h1.lt), blk_step h2 hb, Kd.R_below h3 hb, blk_step h4 hb, h5.trans (hb.mono h5.size)⟩
theorem MidV.num {w wr w5 : World} {g gm : Nat} {kd : Int} {v : Value} {N x x' : List Int} {b b' : Bool} (h : MidV w g gm kd v N x b wr) (ho : OffG g wr w5) (hR : RdAt w w5 g x' b') : MidV w g gm kd v N x' b' w5 := by
  obtain ⟨h0, ⟨A, c, hg, _⟩, h2, h3, h4, h5⟩ := h
  exact ⟨h0, hR, ho.blk h2 (by omega), R_offG h3 ho hg (by simp [Kd.int, Kd.scalar]), ho.blk h4 (by omega), OffG.since h5 (by omega) ho⟩
theorem MidV.app {w w5 w6 : World} {g gm : Nat} {kd r : Int} {v v6 : Value} {N x : List Int} {b : Bool} (h : MidV w g gm kd v N x b w5) (ho6 : (Kd.int .u64).R 39 w6 w.heap.size (fun _ => True) v6 (N ++ [r])) (hb6 : Below w.heap.size w w6) (hg6 : w5.grownBy w6 v.ownBlock) :
    w6.heap[gm]? = some (.cells #[.int .i64 kd, v, .slice none 0 0, .slice none 0 0] 26 (0, 0)) ∧ MidV w g gm kd v6 (N ++ [r]) x b (w6.setCell ⟨gm, 1, none⟩ v6) := by
  obtain ⟨h0, ⟨A, c, hg, hx⟩, h2, h3, h4, h5⟩ := h
  have k2 := (hg6.block gm (Array.getElem?_eq_some_iff.1 h2).1 (Kd.R_ne h3 h2 (by decide))).trans h2
  have kg := (hg6.block g (Array.getElem?_eq_some_iff.1 hg).1 (Kd.R_ne h3 hg (by decide))).trans hg
  have k4 := (hg6.block w.heap.size (Array.getElem?_eq_some_iff.1 h4).1 (Kd.R_ne h3 h4 (by decide))).trans h4
  exact ⟨k2, h0, ⟨A, c, (Below.heap_setCell _ _ _ _ (show g ≠ gm by omega)).trans kg, hx⟩, blk_put k2 1 _ rfl, Kd.R_set ho6 k2 (by simp [Kd.int, Kd.scalar]) 1 _, (Below.heap_setCell _ _ _ _ (show w.heap.size ≠ gm by omega)).trans k4, hb6.setCell (p := ⟨gm, 1, none⟩) (by show w.heap.size ≤ gm; omega) _⟩
theorem MidV.cells {w wr : World} {g gm : Nat} {kd : Int} {v : Value} {N x : List Int} {b : Bool} (h : MidV w g gm kd v N x b wr) : (wr.cell? ⟨gm, 0, none⟩ = some (.int .i64 kd) ∧ wr.cell? ⟨gm, 1, none⟩ = some v) ∧ wr.frozen? ⟨gm, 1, none⟩ = false ∧ wr.cell? ⟨g, 1, none⟩ = some (.bool b) := by
  obtain ⟨h0, ⟨A, c, hg, hx⟩, h2, _⟩ := h
  exact ⟨⟨(blk_cell h2 0).trans rfl, (blk_cell h2 1).trans rfl⟩, blk_frozen h2 1, (blk_cell hg 1).trans rfl⟩
set_option maxRecDepth 100000 in
set_option maxHeartbeats 2000000 in
theorem fb_a (w : World) (A : Option Addr) (n c : Nat) (l : List Int) (hn : n = l.length) (hr : Kd.C (Kd.int .u8) w A n l) (hc : n ≤ c) (hb : Bytes l) (hl : n ≤ 1000000000) (h : (numR l false).2.2 = true ∨ 18 < (numR l false).1) : Calls Try.prog 18 #[.slice A n c] w fun e w' => e = .returned (.tuple #[.agg #[.int .i64 0, .slice none 0 0, .slice none 0 0, .slice none 0 0], .int .i64 3]) ∧ Below w.heap.size w w' := by
  obtain ⟨W1, hW1⟩ : ∃ W1, (w.alloc (.cells #[.int .i64 0, .slice none 0 0, .slice none 0 0, .slice none 0 0] 26)).alloc (.cells #[.slice A n c, .bool false] 58) = W1 := ⟨_, rfl⟩
  have hb1 : Below w.heap.size w W1 := by rw [← hW1]; exact ((Below.refl _ w).alloc (Nat.le_refl _) _).alloc (by simp) _
  have hg1 : W1.heap[w.heap.size + 1]? = some (.cells #[.slice A n c, .bool false] 58 (0, 0)) := by
    rw [← hW1]; have h := heap_alloc_new (w.alloc (.cells #[.int .i64 0, .slice none 0 0, .slice none 0 0, .slice none 0 0] 26)) (.cells #[.slice A n c, .bool false] 58); rw [World.size_alloc] at h; exact h
  have hr1 : W1.heap[w.heap.size]? = some (.cells #[.int .i64 0, .slice none 0 0, .slice none 0 0, .slice none 0 0] 26 (0, 0)) := by
    rw [← hW1]; exact (Below.heap_alloc _ _ _ (by simp)).trans (heap_alloc_new w _)
  have hR1 : RdAt w W1 (w.heap.size + 1) l false := ⟨A, c, by rw [← hn]; exact hg1, by omega, fun V hV => by rw [← hn]; exact Kd.Heap.C (Kd.heap_int _) hV hr⟩
  have K2 := number_calls w W1 (w.heap.size + 1) l false hR1 (Same.below hb1) hb
  have hlr : w.heap.size < W1.heap.size := (Array.getElem?_eq_some_iff.1 hr1).1
  obtain ⟨nr1, nr2, nr3⟩ := numR_in (b := false) hb
  obtain ⟨⟨kd, x0, b0⟩, hq⟩ : ∃ q, numR l false = q := ⟨_, rfl⟩
  rw [hq] at K2 h
  dsimp only at K2 h
  have K2 := Lib.hid K2
  have HB1 := Lib.hid hb1
  have HR1 := Lib.hid hr1
  have hb0 : b0 = true ∨ (b0 = false ∧ decide (18 < kd) = true) := by
    cases b0 with
    | true => exact .inl rfl
    | false => exact .inr ⟨rfl, decide_eq_true (h.resolve_left (by simp))⟩
  clear hb1 hg1 hr1 hR1 nr1 nr2 nr3 hq hr hb hn h
  rcases hb0 with rfl | ⟨rfl, hk18⟩
  all_goals
    go_enter Try.func18, Try.ntmps18
    go_wp2_with (go_at_call 35; refine K2.out.mono ?_; rintro e w2 ⟨rfl, hR2, ho2⟩; have HB2 := Lib.hid (OffG.since HB1.out (Nat.le_succ _) ho2); have hr2 := ho2.blk HR1.out (by omega); have HR2 := Lib.hid hr2; obtain ⟨A2, c2, hg2, _⟩ := hR2; have p1 := (blk_cell hg2 1).trans rfl; have y0 := (blk_cell hr2 0).trans rfl; have y1 := (blk_cell hr2 1).trans rfl; have y2 := (blk_cell hr2 2).trans rfl; have y3 := (blk_cell hr2 3).trans rfl; have z0 := blk_frozen hr2 0; have z1 := blk_frozen hr2 1; have z2 := blk_frozen hr2 2; have z3 := blk_frozen hr2 3; clear ho2 hr2 hg2)
    refine bodyPost_ret (results_ct rfl _ _ w.heap.size 26 #[.int .i64 0, .slice none 0 0, .slice none 0 0, .slice none 0 0] (0, 0) _ rfl (blk_put (blk_put (blk_put (blk_put HR2.out 0 _ rfl) 1 _ rfl) 2 _ rfl) 3 _ rfl) Try.underlying26 rfl (by kernel_rfl)) rfl ?_
    exact ⟨rfl, (((HB2.out.setCell (p := ⟨w.heap.size, 0, none⟩) (Nat.le_refl _) _).setCell (p := ⟨w.heap.size, 1, none⟩) (Nat.le_refl _) _).setCell (p := ⟨w.heap.size, 2, none⟩) (Nat.le_refl _) _).setCell (p := ⟨w.heap.size, 3, none⟩) (Nat.le_refl _) _⟩
set_option maxRecDepth 100000 in
set_option maxHeartbeats 4000000 in
theorem fb_b (w : World) (A : Option Addr) (n c : Nat) (l : List Int) (hn : n = l.length) (hr : Kd.C (Kd.int .u8) w A n l) (hc : n ≤ c) (hb : Bytes l) (hl : n ≤ 1000000000) (h1 : (numR l false).2.2 = false ∧ (numR l false).1 ≤ 18) (h2 : (numR (numsR (numsF (numR l false).1).toNat (numR l false).2.1 false).2.1 (numsR (numsF (numR l false).1).toNat (numR l false).2.1 false).2.2).2.2 = true ∨ 8 < (numR (numsR (numsF (numR l false).1).toNat (numR l false).2.1 false).2.1 (numsR (numsF (numR l false).1).toNat (numR l false).2.1 false).2.2).1) :
    Calls Try.prog 18 #[.slice A n c] w fun e w' => e = .returned (.tuple #[.agg #[.int .i64 0, .slice none 0 0, .slice none 0 0, .slice none 0 0], .int .i64 3]) ∧ Below w.heap.size w w' := by
  obtain ⟨W1, hW1⟩ : ∃ W1, (w.alloc (.cells #[.int .i64 0, .slice none 0 0, .slice none 0 0, .slice none 0 0] 26)).alloc (.cells #[.slice A n c, .bool false] 58) = W1 := ⟨_, rfl⟩
  have hb1 : Below w.heap.size w W1 := by rw [← hW1]; exact ((Below.refl _ w).alloc (Nat.le_refl _) _).alloc (by simp) _
  have hg1 : W1.heap[w.heap.size + 1]? = some (.cells #[.slice A n c, .bool false] 58 (0, 0)) := by
    rw [← hW1]; have h := heap_alloc_new (w.alloc (.cells #[.int .i64 0, .slice none 0 0, .slice none 0 0, .slice none 0 0] 26)) (.cells #[.slice A n c, .bool false] 58); rw [World.size_alloc] at h; exact h
  have hr1 : W1.heap[w.heap.size]? = some (.cells #[.int .i64 0, .slice none 0 0, .slice none 0 0, .slice none 0 0] 26 (0, 0)) := by
    rw [← hW1]; exact (Below.heap_alloc _ _ _ (by simp)).trans (heap_alloc_new w _)
  have hR1 : RdAt w W1 (w.heap.size + 1) l false := ⟨A, c, by rw [← hn]; exact hg1, by omega, fun V hV => by rw [← hn]; exact Kd.Heap.C (Kd.heap_int _) hV hr⟩
  have K2 := number_calls w W1 (w.heap.size + 1) l false hR1 (Same.below hb1) hb
  have hlr : w.heap.size < W1.heap.size := (Array.getElem?_eq_some_iff.1 hr1).1
  obtain ⟨nr1, nr2, nr3⟩ := numR_in (b := false) hb
  obtain ⟨⟨kd, x0, b0⟩, hq⟩ : ∃ q, numR l false = q := ⟨_, rfl⟩
  rw [hq] at K2 nr1 nr2 nr3 h1 h2
  dsimp only at K2 nr1 nr2 nr3 h1 h2
  obtain ⟨h1, hk18⟩ := h1
  subst h1
  have b18 : decide (18 < kd) = false := decide_eq_false (by omega)
  have ekd : IntKind.i64.wrap kd = kd := IntWalk.i64_in _ (by omega)
  obtain ⟨nk, hnk⟩ : ∃ n, numsF kd = n := ⟨_, rfl⟩
  have hn6 := numsF_le kd
  have KN := fun W => nums_at W kd
  rw [hnk] at KN hn6 h2
  obtain ⟨cnt, hcnt⟩ : ∃ m, nk.toNat = m := ⟨_, rfl⟩
  have hmx : (if nk < 0 then (0 : Int) else nk) = (cnt : Int) := by split <;> omega
  have hc6 : cnt ≤ 6 := by omega
  rw [hcnt] at h2
  obtain ⟨⟨T1, T2, T3⟩, hT⟩ : ∃ q, numsR cnt x0 false = q := ⟨_, rfl⟩
  obtain ⟨tn1, tn2, tn3, tn4⟩ := numsR_in cnt (b := false) nr2
  rw [hT] at h2 tn1 tn2 tn3 tn4
  dsimp only at h2 tn1 tn2 tn3 tn4
  obtain ⟨⟨qv, x2, b2⟩, hQ⟩ : ∃ q, numR T2 T3 = q := ⟨_, rfl⟩
  obtain ⟨qn1, qn2, qn3⟩ := numR_in (b := T3) tn3
  rw [hQ] at h2 qn1 qn2 qn3
  dsimp only at h2 qn1 qn2 qn3
  have HE1 := Lib.hid hq
  have HE2 := Lib.hid (show numsR (numsF kd).toNat x0 false = (T1, T2, T3) by rw [hnk, hcnt]; exact hT)
  have KN := Lib.hid KN
  have K2 := Lib.hid K2
  have HB1 := Lib.hid hb1
  have HR1 := Lib.hid hr1
  have HT := Lib.hid hT
  have HQ := Lib.hid hQ
  have HX0 := Lib.hid nr2
  have HT1L := Lib.hid tn1
  have HT1R := Lib.hid tn2
  have HT2B := Lib.hid tn3
  have HX2B := Lib.hid qn2
  have HX2L := Lib.hid (show x2.length ≤ n by omega)
  have H2 : b2 = true ∨ (b2 = false ∧ decide (8 < qv) = true) := by
    cases b2 with
    | true => exact .inl rfl
    | false => exact .inr ⟨rfl, decide_eq_true (h2.resolve_left (by simp))⟩
  clear h2
  clear hb1 hg1 hr1 hR1 nr1 nr2 nr3 hq hnk hn6 hcnt hT hQ tn1 tn2 tn3 tn4 qn2 qn3 hr hb hn
  go_enter Try.func18, Try.ntmps18
  go_upto_region 5 with (go_at_call 35; refine K2.out.mono ?_; rintro e w2 ⟨rfl, hR2, ho2⟩; have HB2 := Lib.hid (OffG.since HB1.out (Nat.le_succ _) ho2); have HR2 := Lib.hid (ho2.blk HR1.out (by omega)); have HRD2 := Lib.hid hR2; obtain ⟨A2, c2, hg2, _⟩ := hR2; have p1 := (blk_cell hg2 1).trans rfl; clear ho2 hg2)
  clear hW1
  go_upto_region 6 with fail
  clear p1
  obtain ⟨W3, hW3⟩ : ∃ W3, w2.alloc (.cells #[.int .i64 kd, .slice none 0 0, .slice none 0 0, .slice none 0 0] 26) = W3 := ⟨_, rfl⟩
  have HM3 := Lib.hid (show MidV w (w.heap.size + 1) w2.heap.size kd (.slice none 0 0) [] x0 false W3 from by
    have hb := (Below.refl w2.heap.size w2).alloc (Nat.le_refl _) (.cells #[.int .i64 kd, .slice none 0 0, .slice none 0 0, .slice none 0 0] 26)
    rw [hW3] at hb
    exact ⟨⟨Nat.lt_succ_self _, HRD2.out.lt⟩, HRD2.out.step (hb.block _ HRD2.out.lt), by rw [← hW3]; exact heap_alloc_new w2 _, Kd.R_nil _ _ _ _ _, blk_step HR2.out hb, HB2.out.trans (hb.mono HB2.out.size)⟩)
  obtain ⟨⟨m0, m1⟩, _, _⟩ := HM3.out.cells
  rw [hW3]
  clear hW3
  go_wp2_with (go_at_call 16; refine (KN.out _).mono ?_; rintro e w4 ⟨rfl, hb4⟩; have HM4 := Lib.hid (HM3.out.step hb4); clear hb4)
  clear m0 m1
  obtain ⟨gm, hgm⟩ : ∃ gm, w2.heap.size = gm := ⟨_, rfl⟩
  rw [hgm] at HM4
  rw [hgm]
  clear hgm HM3
  go_loopg [30] cnt (fun kq v30 wr => ∃ (i : Nat) (N x : List Int) (b : Bool) (v : Value), v30 = .int .i64 i ∧ i + kq = cnt ∧ Hid (N.length = i) ∧ Hid (MidV w (w.heap.size + 1) gm kd v N x b wr) ∧ Hid (Bytes x) ∧ Hid (N ++ (numsR kq x b).1 = T1) ∧ Hid ((numsR kq x b).2 = (T2, T3)))
  case atStart => exact ⟨0, [], x0, false, _, rfl, by omega, Lib.hid rfl, HM4, HX0, Lib.hid (by rw [HT.out]; rfl), Lib.hid (by rw [HT.out])⟩
  case round =>
    obtain ⟨i, N, x, b, v, rfl, hik, HNL, HM, HBx, HP1, HP2⟩ := hrel
    cases gk with
    | succ k1 =>
      have b0 : decide ((i : Int) < (cnt : Int)) = true := decide_eq_true (by omega)
      have hlt : i < cnt := by omega
      obtain ⟨Av, cv, hv, _, _⟩ := Kd.R_reads HM.out.2.2.2.1
      rw [HNL.out] at hv
      subst hv
      have e1 := HP1.out
      have e2 := HP2.out
      simp only [numsR] at e1 e2
      have KQ := number_calls w wr.drew (w.heap.size + 1) x b (HM.out.2.1.step rfl) (Same.below HM.out.2.2.2.2.2.drew) HBx.out
      have hx' := (numR_in (b := b) HBx.out).2.1
      obtain ⟨⟨r, x', b'⟩, hq⟩ : ∃ q, numR x b = q := ⟨_, rfl⟩
      rw [hq] at KQ e1 e2 hx'
      dsimp only at KQ e1 e2 hx'
      have KQ := Lib.hid KQ
      have E1 := Lib.hid e1
      have E2 := Lib.hid e2
      have HX' := Lib.hid hx'
      obtain ⟨⟨m0, m1⟩, m2, m3⟩ := HM.out.cells
      have HOD := Lib.hid (show OffG (w.heap.size + 1) wr wr.drew from OffG.below (show Below wr.heap.size wr wr.drew from ⟨rfl, rfl, rfl, Nat.le_refl _, fun _ _ => rfl⟩))
      clear hq e1 e2 hx'
      go_upto_region 8 with fail
      go_region_law (first
        | (go_simp; go_at_call 35; refine KQ.out.mono ?_; rintro e w5 ⟨rfl, hR5, ho5⟩; dsimp only; have HM5 := Lib.hid (HM.out.num (HOD.out.trans ho5) hR5); obtain ⟨⟨n0, n1⟩, n2, n3⟩ := HM5.out.cells; have n5 : (w5.alloc (.cells #[.int .u64 r] 39)).cell? ⟨gm, 1, none⟩ = some (.slice Av i cv) := (World.cell?_alloc_lt _ _ _ (World.block_lt_of_cell? _ _ n1)).trans n1; clear hR5 ho5)
        | (refine Kd.R_append_step (Kd.int .u64) (w0 := w) w.heap.size (by rfl) (.tmp 33) (.tmp 36) 22 39 (.int .u64 0) 8 rfl Try.underlying22 info64 rfl (by decide) (by decide) (.slice Av i cv) N r [.int .u64 r] (fun _ => True) (fun _ => False) (by simp [Act.eval]) (by simp [Act.eval]) rfl (fun _ hk => hk.elim) (fun _ _ => trivial) HM5.out.2.2.2.1 HM5.out.2.2.2.2.2 HM5.out.2.2.2.2.2.size (by have := HNL.out; omega) ?_; intro v6 w6 ho6 hb6 hg6 hat6; obtain ⟨A6, cp6, hv6, _, _⟩ := Kd.R_reads ho6; obtain ⟨j6, hj6⟩ : ∃ j, (N ++ [r]).length = j := ⟨_, rfl⟩; rw [hj6] at hv6; subst hv6; have HJ6 := Lib.hid hj6; obtain ⟨hgm6, hM6⟩ := HM5.out.app ho6 hb6 hg6; have c6 := (blk_cell hgm6 1).trans rfl; have f6 := blk_frozen hgm6 1; have HM6 := Lib.hid hM6; clear ho6 hb6 hg6 hat6 hgm6 hM6 hj6))
      all_goals
        go_wp2_with fail
        go_roundg k1
        case measure => omega
        case rel => exact ⟨i + 1, N ++ [r], x', b', _, by go_num, by omega, Lib.hid (by rw [List.length_append, HNL.out]; rfl), HM6, HX', Lib.hid (by rw [List.append_assoc]; exact E1.out), E2⟩
    | zero =>
      have b0 : decide ((i : Int) < (cnt : Int)) = false := decide_eq_false (by omega)
      have hlt : ¬ i < cnt := by omega
      have e1 := HP1.out
      have e2 := HP2.out
      simp only [numsR, List.append_nil, Prod.mk.injEq] at e1 e2
      obtain ⟨rfl, rfl⟩ := e2
      subst e1
      have KQ := number_calls w wr (w.heap.size + 1) x b HM.out.2.1 (Same.below HM.out.2.2.2.2.2) HBx.out
      rw [HQ.out] at KQ
      dsimp only at KQ
      have KQ := Lib.hid KQ
      clear HP1 HP2 HT
      go_upto_region 11 with (go_simp; go_at_call 35; refine KQ.out.mono ?_; rintro e w5 ⟨rfl, hR5, ho5⟩; dsimp only; have HM5 := Lib.hid (HM.out.num ho5 hR5); clear hR5 ho5)
      obtain ⟨_, _, n3⟩ := HM5.out.cells
      have HR5 := Lib.hid HM5.out.2.2.2.2.1
      have hr5 := HR5.out
      have y0 := (blk_cell hr5 0).trans rfl; have y1 := (blk_cell hr5 1).trans rfl; have y2 := (blk_cell hr5 2).trans rfl; have y3 := (blk_cell hr5 3).trans rfl; have z0 := blk_frozen hr5 0; have z1 := blk_frozen hr5 1; have z2 := blk_frozen hr5 2; have z3 := blk_frozen hr5 3
      clear hr5
      rcases H2 with rfl | ⟨rfl, hk8⟩
      all_goals
        go_wp2
        refine bodyPost_ret (results_ct rfl _ _ w.heap.size 26 #[.int .i64 0, .slice none 0 0, .slice none 0 0, .slice none 0 0] (0, 0) _ rfl (blk_put (blk_put (blk_put (blk_put HR5.out 0 _ rfl) 1 _ rfl) 2 _ rfl) 3 _ rfl) Try.underlying26 rfl (by kernel_rfl)) rfl ?_
        exact ⟨rfl, (((HM5.out.2.2.2.2.2.setCell (p := ⟨w.heap.size, 0, none⟩) (Nat.le_refl _) _).setCell (p := ⟨w.heap.size, 1, none⟩) (Nat.le_refl _) _).setCell (p := ⟨w.heap.size, 2, none⟩) (Nat.le_refl _) _).setCell (p := ⟨w.heap.size, 3, none⟩) (Nat.le_refl _) _⟩
end Go.Proofs.Ytklcggcejaecdaa.Wi
