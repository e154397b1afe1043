/-
  VouchApart: two vouchers of one notary are the same bytes just if they are of the same numbers. No condition.
-/
import Derived.Test.YtmidmdbhbhjcdaaVa
import Derived.Test.YtmidmdbhbhjcdaaOp
import Derived.Test.YtmidmdbhbhjcdaaWEqStruct
namespace Go.Proofs.Ytmidmdbhbhjcdaa.By
open Go.RowKit Go.Shelf Go.Proofs.Ytmidmdbhbhjcdaa.Sp Go.Proofs.Ytmidmdbhbhjcdaa.Nt Go.Proofs.Ytmidmdbhbhjcdaa.H Go.Proofs.Ytmidmdbhbhjcdaa.Uv Go.Proofs.Ytmidmdbhbhjcdaa.Fr Go.Proofs.YtmidmdbhbhjcdaaW.PrintWords Go.Proofs.YtmidmdbhbhjcdaaW.PrintLast Go.Proofs.YtmidmdbhbhjcdaaW.PrintMore
set_option linter.unusedVariables false
set_option linter.unusedSimpArgs false
/-! ### a word's numbers -/
abbrev WordV := Int × Int × Int
def dWord : Kd WordV := Kd.pair (Kd.int .i64) (Kd.pair (Kd.int .i64) (Kd.int .i64))
def okWord (x : WordV) : Prop := (-9223372036854775808 ≤ x.1 ∧ x.1 ≤ 9223372036854775807) ∧ (-9223372036854775808 ≤ x.2.1 ∧ x.2.1 ≤ 9223372036854775807) ∧ (-9223372036854775808 ≤ x.2.2 ∧ x.2.2 ≤ 9223372036854775807)
theorem wf_bd {k : IntKind} {x lo hi : Int} (h : (Lit.int k x).wf = true) (h1 : lo ≤ k.min) (h2 : k.max ≤ hi) : lo ≤ x ∧ x ≤ hi := by
  simp [Lit.wf] at h
  omega
theorem opens_Word : Op.Opens Try.prog 24 dWord okWord :=
  Op.opens_mono (Op.opens_struct Try.underlying24 (by kernel_rfl)
    (Op.opensF_cons rfl (by kernel_rfl) (Op.opens_int Try.underlying3)
      (Op.opensF_cons rfl (by kernel_rfl) (Op.opens_int Try.underlying3)
        (Op.opensF_one rfl (by kernel_rfl) (Op.opens_int Try.underlying3)))))
    (fun y h => ⟨wf_bd h.1 (by decide) (by decide), wf_bd h.2.1 (by decide) (by decide), wf_bd h.2.2 (by decide) (by decide)⟩)
abbrev wv (x : WordV) : Array Value := #[.int .i64 x.1, .int .i64 x.2.1, .int .i64 x.2.2]
theorem word_cells {w : World} {cs : Array Value} {x : WordV} (h : dWord.K w x cs.toList) : cs = wv x := by
  obtain ⟨_, _, h1, rfl, ⟨_, _, rfl, rfl, rfl⟩⟩ := h
  exact Array.toList_inj.1 h1
/-! ### plain -/
theorem textL_inj {r p u r' p' u' : Int} (h : mayF r p u = true) (h' : mayF r' p' u' = true) (e : textL [r, p, u] = textL [r', p', u']) : r = r' ∧ p = p' ∧ u = u' := by
  have e1 := textL_each (may_nums h)
  rw [e, textL_each (may_nums h')] at e1
  simp at e1
  exact ⟨e1.1.symm, e1.2.1.symm, e1.2.2.symm⟩
theorem mnew {L : List Ent} {r : Int} {t : List Int} (h1 : 1 ≤ r) (h2 : r ≤ 2147483647) (h : (r, t) ∉ L) : mintF L r t = ((L.length : Int) + 1, (0 : Int), L ++ [(r, t)]) := by unfold mintF; rw [if_neg (by omega), if_neg h]
theorem mold {L : List Ent} {r : Int} {t : List Int} (h1 : 1 ≤ r) (h2 : r ≤ 2147483647) (h : (r, t) ∈ L) : mintF L r t = ((L.idxOf (r, t) : Int) + 1, (0 : Int), L) := by unfold mintF; rw [if_neg (by omega), if_pos h]
theorem makeF_yes {L : List Ent} {r p u : Int} (h : mayF r p u = true) : makeF L r p u = (vouchI r p u (mintF L r (textL [r, p, u])).1, 0, (mintF L r (textL [r, p, u])).2.2) := by unfold makeF; rw [if_pos h]
theorem makeF_no {L : List Ent} {r p u : Int} (h : ¬ mayF r p u = true) : makeF L r p u = ([], 1, L) := by unfold makeF; rw [if_neg h]
theorem make_first {r p u : Int} (h : mayF r p u = true) : makeF [] r p u = (vouchI r p u 1, 0, [(r, textL [r, p, u])]) := by
  have hm := (mayF_iff r p u).1 h
  rw [makeF_yes h, mnew hm.1 hm.2.1 (by simp)]
  rfl
theorem make_again {L : List Ent} {r p u : Int} (h : mayF r p u = true) : makeF ((r, textL [r, p, u]) :: L) r p u = (vouchI r p u 1, 0, (r, textL [r, p, u]) :: L) := by
  have hm := (mayF_iff r p u).1 h
  rw [makeF_yes h, mold hm.1 hm.2.1 (by simp), List.idxOf_cons_self]
  rfl
theorem make_other {r p u r' p' u' : Int} (h : mayF r p u = true) (h' : mayF r' p' u' = true) (hne : ¬ (r = r' ∧ p = p' ∧ u = u')) : makeF [(r, textL [r, p, u])] r' p' u' = (vouchI r' p' u' 2, 0, [(r, textL [r, p, u]), (r', textL [r', p', u'])]) := by
  have hm := (mayF_iff r' p' u').1 h'
  rw [makeF_yes h', mnew hm.1 hm.2.1 (by simp; intro _ e; exact hne (by have := textL_inj h' h e; exact ⟨this.1.symm, this.2.1.symm, this.2.2.symm⟩))]
  rfl
theorem makeF_bytes (L : List Ent) (r p u : Int) : Bytes (makeF L r p u).1 ∧ (makeF L r p u).1.length ≤ 50 := by
  by_cases h : mayF r p u = true
  · have hm := (mayF_iff r p u).1 h
    have := mint_may (L := L) (t := textL [r, p, u]) hm.1 hm.2.1
    rw [makeF_yes h]
    exact ⟨vouch_bytes h (by omega), vouch_len _ _ _ _⟩
  · rw [makeF_no h]
    exact ⟨fun x hx => (by cases hx), Nat.zero_le _⟩
/-- What the law looks at. -/
def Apart (a b : WordV) (x y : List Int) (e f : Int) (L1 L2 L3 : List Ent) : Prop :=
  makeF [] a.1 a.2.1 a.2.2 = (x, e, L1) ∧ makeF L1 b.1 b.2.1 b.2.2 = (y, f, L2) ∧ makeF L2 a.1 a.2.1 a.2.2 = (x, e, L3) ∧ L1.length ≤ 2 ∧ L2.length ≤ 2 ∧
    (e = 1 ∨ (e = 0 ∧ f = 1) ∨ (e = 0 ∧ f = 0 ∧ decide (x = y) = decide (a = b) ∧ ((L3.length : Int) == 1) = decide (a = b)))
theorem apart_law (a b : WordV) : ∃ x y e f L1 L2 L3, Apart a b x y e f L1 L2 L3 := by
  obtain ⟨r, p, u⟩ := a
  obtain ⟨r', p', u'⟩ := b
  by_cases ha : mayF r p u = true
  · by_cases hb : mayF r' p' u' = true
    · by_cases he : r = r' ∧ p = p' ∧ u = u'
      · obtain ⟨rfl, rfl, rfl⟩ := he
        exact ⟨_, _, _, _, _, _, _, make_first ha, make_again ha, make_again ha, by simp, by simp, .inr (.inr ⟨rfl, rfl, by simp, by simp⟩)⟩
      · have hne : ¬ ((r, p, u) = (r', p', u')) := fun e => he (by simp only [Prod.mk.injEq] at e; exact e)
        refine ⟨_, _, _, _, _, _, _, make_first ha, make_other ha hb he, make_again ha, by simp, by simp, .inr (.inr ⟨rfl, rfl, ?_, ?_⟩)⟩
        · rw [decide_eq_false hne]
          refine decide_eq_false (fun e => he ?_)
          have h1 := good_inj (vouch_good (tag := 1) ha (by omega) (by omega)) (b := vouchI r p u 1) (tag' := 2) ⟨hb, by omega, by omega, e⟩
          exact ⟨h1.1, h1.2.1, h1.2.2.1⟩
        · rw [decide_eq_false hne]
          rfl
    · exact ⟨_, _, _, _, _, _, _, make_first ha, makeF_no hb, make_again ha, by simp, by simp, .inr (.inl ⟨rfl, rfl⟩)⟩
  · by_cases hb : mayF r' p' u' = true
    · exact ⟨_, _, _, _, _, _, _, makeF_no ha, make_first hb, makeF_no ha, by simp, by simp, .inl rfl⟩
    · exact ⟨_, _, _, _, _, _, _, makeF_no ha, makeF_no hb, makeF_no ha, by simp, by simp, .inl rfl⟩
theorem eqW (d : Nat) (w : World) (a b : WordV) : (Op.equalIn (d + 2) 24 (.agg (wv a)) (.agg (wv b))).run Try.prog w = .ok (a.1 == b.1 && (a.2.1 == b.2.1 && a.2.2 == b.2.2)) w := by
  refine eqA_of Try.underlying24 (by kernel_rfl) ?_
  refine eqf_cons (by rfl) (by go_simp; rfl) (by go_simp; rfl) (by go_simp) ?_
  refine eqf_cons (by rfl) (by go_simp; rfl) (by go_simp; rfl) (by go_simp) ?_
  exact eqf_last (by rfl) (by go_simp; rfl) (by go_simp; rfl) (by go_simp)
theorem eqW' (w : World) (a b : WordV) : (binOp .eql 24 (.agg (wv a)) (.agg (wv b))).run Try.prog w = .ok (.bool (decide (a = b))) w := by
  have h : (Op.equal 24 (.agg (wv a)) (.agg (wv b))).run Try.prog w = .ok (a.1 == b.1 && (a.2.1 == b.2.1 && a.2.2 == b.2.2)) w := eqW _ w a b
  have e : (a.1 == b.1 && (a.2.1 == b.2.1 && a.2.2 == b.2.2)) = decide (a = b) := by
    obtain ⟨r, p, u⟩ := a
    obtain ⟨r', p', u'⟩ := b
    rw [Bool.eq_iff_iff]
    simp
  rw [e] at h
  unfold binOp
  simp only [Sem.run_bind, h, Result.andThen_ok, Sem.run_pure]
set_option maxRecDepth 100000 in
set_option maxHeartbeats 4000000 in
theorem apart_calls (w : World) (r p u r' p' u' : Int) :
    Calls Try.prog 6 #[.agg #[.int .i64 r, .int .i64 p, .int .i64 u], .agg #[.int .i64 r', .int .i64 p', .int .i64 u']] w fun e w' => e = .returned (.bool true) ∧ Below w.heap.size w w' := by
  obtain ⟨x, y, e, f, L1, L2, L3, hA1, hA2, hA3, hl1, hl2, hend⟩ := apart_law (r, p, u) (r', p', u')
  dsimp only at hA1 hA2 hA3
  have q25 : ∀ (w : World) (a : Addr), (binOp .eql 27 (.pointer (some a)) (.pointer none)).run Try.prog w = .ok (.bool false) w := fun w a => by kernel_rfl
  obtain ⟨d, hd⟩ : ∃ d, decide (((r, p, u) : WordV) = (r', p', u')) = d := ⟨_, rfl⟩
  have qw : ∀ w : World, (binOp .eql 24 (.agg #[.int .i64 r, .int .i64 p, .int .i64 u]) (.agg #[.int .i64 r', .int .i64 p', .int .i64 u'])).run Try.prog w = .ok (.bool d) w := fun w => by rw [← hd]; exact eqW' w (r, p, u) (r', p', u')
  rw [hd] at hend
  have hbx := (makeF_bytes [] r p u)
  have hby := (makeF_bytes L1 r' p' u')
  rw [hA1] at hbx
  rw [hA2] at hby
  dsimp only at hbx hby
  have HBX := Lib.hid hbx
  have HBY := Lib.hid hby
  have HEND := Lib.hid hend
  have HA := Lib.hid (fun W => awake_calls W)
  have HA1 := Lib.hid hA1
  have HA2 := Lib.hid hA2
  have HA3 := Lib.hid hA3
  clear hbx hby hend hA1 hA2 hA3 hd
  obtain ⟨W, hW⟩ : ∃ W, (w.alloc (.cells #[.int .i64 r, .int .i64 p, .int .i64 u] 24)).alloc (.cells #[.int .i64 r', .int .i64 p', .int .i64 u'] 24) = W := ⟨_, rfl⟩
  have hbW : Below w.heap.size w W := by rw [← hW]; exact ((Below.refl _ w).alloc (Nat.le_refl _) _).alloc (by simp) _
  have hsW : W.heap.size = w.heap.size + 2 := by rw [← hW]; simp
  have e1 : W.heap[w.heap.size]? = some (.cells #[.int .i64 r, .int .i64 p, .int .i64 u] 24 (0, 0)) := by
    rw [← hW]; exact (((Below.refl (w.heap.size + 1) (w.alloc _)).alloc (by simp) _).block w.heap.size (by omega)).trans (new_cellsN w _ _)
  have e2 : W.heap[w.heap.size + 1]? = some (.cells #[.int .i64 r', .int .i64 p', .int .i64 u'] 24 (0, 0)) := by
    rw [← hW]; have h := new_cellsN (w.alloc (.cells #[.int .i64 r, .int .i64 p, .int .i64 u] 24)) 24 #[.int .i64 r', .int .i64 p', .int .i64 u']; rw [World.size_alloc] at h; exact h
  have HE1 := Lib.hid e1
  have HE2 := Lib.hid e2
  have HB := Lib.hid hbW
  have HSW := Lib.hid hsW
  clear e1 e2 hbW hsW
  go_enter Try.func6, Try.ntmps6
  go_upto_region 3 with (go_at_call 7; refine (HA.out _).mono ?_; rintro e w1 ⟨rfl, hb1⟩; have HB1 := Lib.hid hb1; clear hb1)
  have HBW1 := Lib.hid (HB.out.trans (HB1.out.mono HB.out.size))
  clear hW
  go_upto_region 4 with (go_at_call 8; refine (one_new _).mono ?_; rintro e w2 ⟨g, rfl, hn, hb2⟩; have HN := Lib.hid hn; have HB2 := Lib.hid hb2; clear hn hb2)
  -- the boxes
  have HBOX := Lib.hid (show ∀ V : World, Below w1.heap.size w1 V → V.heap[w.heap.size]? = some (.cells #[.int .i64 r, .int .i64 p, .int .i64 u] 24 (0, 0)) ∧ V.heap[w.heap.size + 1]? = some (.cells #[.int .i64 r', .int .i64 p', .int .i64 u'] 24 (0, 0)) from fun V hV => by
    have h1 := HSW.out
    have h2 := HB1.out.size
    exact ⟨(hV.block _ (by omega)).trans ((HB1.out.block _ (by omega)).trans HE1.out), (hV.block _ (by omega)).trans ((HB1.out.block _ (by omega)).trans HE2.out)⟩)
  have K3 := make_calls w2 w1.heap.size g [] _ r p u HN.out HB2.out.size (by simp)
  rw [HA1.out] at K3
  dsimp only at K3
  have K3 := Lib.hid K3
  have x1 := (HBOX.out w2 HB2.out).1
  have a0 := cell_cellsN x1 0 (by simp)
  have a1 := cell_cellsN x1 1 (by simp)
  have a2 := cell_cellsN x1 2 (by simp)
  simp only [List.getElem_toArray, List.getElem_cons_zero, List.getElem_cons_succ] at a0 a1 a2
  obtain ⟨nx, hnx⟩ : ∃ n, x.length = n := ⟨_, rfl⟩
  obtain ⟨ny, hny⟩ : ∃ n, y.length = n := ⟨_, rfl⟩
  have HNX := Lib.hid hnx
  have HNY := Lib.hid hny
  clear x1 hnx hny
  go_upto_region 5 with (go_at_call 17; with_reducible refine K3.out.mono ?_; rintro e w3 ⟨v3, s3, rfl, hR3, hs3, h3, hb3, hk3⟩; obtain ⟨A3, c3, hv3, hc3, _⟩ := Kd.R_reads hR3; rw [HNX.out] at hv3; subst hv3; have HR3 := Lib.hid hR3; have H3 := Lib.hid h3; have HB3 := Lib.hid (HB2.out.trans hb3); have HS3 := Lib.hid hs3; clear hR3 h3 hb3 hk3 hs3 hc3)
  have K4 := make_calls w3 w1.heap.size g L1 _ r' p' u' H3.out HB3.out.size (by omega)
  rw [HA2.out] at K4
  dsimp only at K4
  have K4 := Lib.hid K4
  have x2 := (HBOX.out w3 HB3.out).2
  have b0 := cell_cellsN x2 0 (by simp)
  have b1 := cell_cellsN x2 1 (by simp)
  have b2 := cell_cellsN x2 2 (by simp)
  simp only [List.getElem_toArray, List.getElem_cons_zero, List.getElem_cons_succ] at b0 b1 b2
  clear x2 a0 a1 a2
  go_upto_region 6 with (go_at_call 17; with_reducible refine K4.out.mono ?_; rintro e w4 ⟨v4, s4, rfl, hR4, hs4, h4, hb4, hk4⟩; obtain ⟨A4, c4, hv4, hc4, _⟩ := Kd.R_reads hR4; rw [HNY.out] at hv4; subst hv4; have HR4 := Lib.hid hR4; have H4 := Lib.hid h4; have HB4 := Lib.hid (HB3.out.trans hb4); have HK4 := Lib.hid hk4; clear hR4 h4 hb4 hk4 hs4 hc4)
  have HR34 := Lib.hid (R_moved HR3.out (fun k h1 h2 => HK4.out k (.inr ⟨h1, h2⟩)))
  have K5 := make_calls w4 w1.heap.size g L2 _ r p u H4.out HB4.out.size (by omega)
  rw [HA3.out] at K5
  dsimp only at K5
  have K5 := Lib.hid K5
  have x1 := (HBOX.out w4 HB4.out).1
  have a0 := cell_cellsN x1 0 (by simp)
  have a1 := cell_cellsN x1 1 (by simp)
  have a2 := cell_cellsN x1 2 (by simp)
  simp only [List.getElem_toArray, List.getElem_cons_zero, List.getElem_cons_succ] at a0 a1 a2
  clear x1 b0 b1 b2
  go_upto_region 7 with (go_at_call 17; with_reducible refine K5.out.mono ?_; rintro e w5 ⟨v5, s5, rfl, hR5, hs5, h5, hb5, hk5⟩; obtain ⟨A5, c5, hv5, hc5, _⟩ := Kd.R_reads hR5; rw [HNX.out] at hv5; subst hv5; have HR5 := Lib.hid hR5; have H5 := Lib.hid h5; have HB5 := Lib.hid (HB4.out.trans hb5); have HK5 := Lib.hid hk5; clear hR5 h5 hb5 hk5 hs5 hc5)
  have HR35 := Lib.hid (R_moved HR34.out (fun k h1 h2 => HK5.out k (.inl (.inr ⟨h1, h2⟩))))
  have HR45 := Lib.hid (R_moved HR4.out (fun k h1 h2 => HK5.out k (.inr ⟨h1, h2⟩)))
  clear a0 a1 a2
  obtain ⟨Xs, hXs⟩ : ∃ s, (strOfNums x) = s := ⟨_, rfl⟩
  obtain ⟨Ys, hYs⟩ : ∃ s, (strOfNums y) = s := ⟨_, rfl⟩
  have qx : ∀ n, (convert 22 9 (.slice A3 nx c3)).run Try.prog (w5.drewN n) = .ok (.string Xs) (w5.drewN n) := fun n => by rw [← hXs]; exact Kd.C_string (c := c3) Try.underlying22 Try.underlying5 Try.underlying9 (Kd.C_below (R_C HR35.out).1 (below_drN (Below.refl _ _) n))
  have qy : ∀ n, (convert 22 9 (.slice A4 ny c4)).run Try.prog (w5.drewN n) = .ok (.string Ys) (w5.drewN n) := fun n => by rw [← hYs]; exact Kd.C_string (c := c4) Try.underlying22 Try.underlying5 Try.underlying9 (Kd.C_below (R_C HR45.out).1 (below_drN (Below.refl _ _) n))
  have qx0 : (convert 22 9 (.slice A3 nx c3)).run Try.prog w5 = .ok (.string Xs) w5 := qx 0
  have qz0 : (convert 22 9 (.slice A5 nx c5)).run Try.prog w5 = .ok (.string Xs) w5 := by rw [← hXs]; exact Kd.C_string (c := c5) Try.underlying22 Try.underlying5 Try.underlying9 (R_C HR5.out).1
  have HXY := Lib.hid (show (Xs.toList == Ys.toList) = decide (x = y) by rw [← hXs, ← hYs]; exact str_list HBX.out.1 HBY.out.1)
  have z0 : (Xs.toList != Xs.toList) = false := by simp
  have z1 : (e != e) = false := by simp
  clear hXs hYs
  go_upto_region 9 with fail
  clear qx0 qz0 z0 z1
  rcases HEND.out with rfl | ⟨rfl, rfl⟩ | ⟨rfl, rfl, h1, h2⟩
  · go_wp2
    go_ret
    exact ⟨rfl, HBW1.out.trans (HB5.out.mono HBW1.out.size)⟩
  · go_wp2
    go_ret
    exact ⟨rfl, HBW1.out.trans (HB5.out.mono HBW1.out.size)⟩
  · have y1 : (Xs.toList == Ys.toList) = d := HXY.out.trans h1
    have y2 : (d == d) = true := by simp
    have KC := Lib.hid (fun n => one_count (w5.drewN n) w1.heap.size g L3 _ (H5.out.step' (below_drN (Below.refl _ _) n)))
    have x1 := (HBOX.out w5 HB5.out).1
    have x2 := (HBOX.out w5 HB5.out).2
    have a0 := cell_cellsN x1 0 (by simp)
    have a1 := cell_cellsN x1 1 (by simp)
    have a2 := cell_cellsN x1 2 (by simp)
    have b0 := cell_cellsN x2 0 (by simp)
    have b1 := cell_cellsN x2 1 (by simp)
    have b2 := cell_cellsN x2 2 (by simp)
    simp only [List.getElem_toArray, List.getElem_cons_zero, List.getElem_cons_succ] at a0 a1 a2 b0 b1 b2
    clear x1 x2
    clear h1
    go_upto_region 11 with fail
    go_quiet ((go_at_call 18; exact Calls.quiet_of_same ((KC.out _).mono (fun e w6 h => ⟨h.1, h.2.symm⟩))))
    go_wp2
    go_ret
    exact ⟨rfl, HBW1.out.trans ((below_drN HB5.out nq).mono HBW1.out.size)⟩
theorem apart_row (cs0 : Array Value) (x0 : WordV) (cs1 : Array Value) (x1 : WordV) (w : World) (hr0 : dWord.K w x0 (Value.agg cs0).cells.toList) (hw0 : okWord x0) (hr1 : dWord.K w x1 (Value.agg cs1).cells.toList) (hw1 : okWord x1) :
    Calls Try.prog 6 #[.agg cs0, .agg cs1] w fun e w' => e = .returned (.bool true) ∧ Below w.heap.size w w' := by
  have e0 : cs0 = wv x0 := word_cells hr0
  have e1 : cs1 = wv x1 := word_cells hr1
  subst e0 e1
  exact apart_calls w x0.1 x0.2.1 x0.2.2 x1.1 x1.2.1 x1.2.2
end Go.Proofs.Ytmidmdbhbhjcdaa.By
