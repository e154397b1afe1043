/-
  addr: the walk of AddrTurned. Conditions: as the theorems state them.
-/
import Derived.Test.YtjbhcaifmgbpgaaDoorBj
namespace Go.Proofs.YtjbhcaifmgbpgaaDoor.Ad
open Go Go.RowKit Go.Shelf Go.Proofs.YtjbhcaifmgbpgaaDoorW.PrintWords Go.Proofs.YtjbhcaifmgbpgaaDoorW.PrintLast Go.Proofs.YtjbhcaifmgbpgaaDoorW.PrintMore
set_option linter.unusedVariables false
set_option linter.unusedSimpArgs false
attribute [local go_sem] Oper.semAt_some
attribute [local go_sem] if_ad
def TnAt (w : World) (g : Nat) (t0 t1 : Int) : Prop := w.heap[g]? = some (.cells #[.int .u8 t0, .int .u8 t1] 36 (0, 0))
theorem TnAt.below {w w' : World} {g : Nat} {t0 t1 : Int} (q : TnAt w g t0 t1) (hb : Below w.heap.size w w') : TnAt w' g t0 t1 := (hb.block g (Array.getElem?_eq_some_iff.1 q).1).trans q
theorem TnAt.cells {w : World} {g : Nat} {t0 t1 : Int} (q : TnAt w g t0 t1) : w.cell? ⟨g, 0, none⟩ = some (.int .u8 t0) ∧ w.cell? ⟨g, 1, none⟩ = some (.int .u8 t1) := ⟨cell_cellsN q 0 (by simp), cell_cellsN q 1 (by simp)⟩
theorem TnAt.other {w : World} {g : Nat} {t0 t1 : Int} (q : TnAt w g t0 t1) {a : Addr} (hp : g ≠ a.block) (v : Value) : TnAt (w.setCell a v) g t0 t1 := (Below.heap_setCell _ _ _ _ hp).trans q
def ByAt (w : World) (g : Nat) (l : List Int) : Prop := w.heap[g]? = some (.cells (l.map (Value.int .u8)).toArray 5 (0, 0))
theorem ByAt.below {w w' : World} {g : Nat} {l : List Int} (q : ByAt w g l) (hb : Below w.heap.size w w') : ByAt w' g l := (hb.block g (Array.getElem?_eq_some_iff.1 q).1).trans q
theorem ByAt.cell {w : World} {g : Nat} {l : List Int} (q : ByAt w g l) (n : Nat) (hn : n < l.length) : w.cell? ⟨g, n, none⟩ = some (.int .u8 (l.getD n 0)) := by
  rw [cell_cellsN q n (by simpa using hn), List.getD_eq_getElem?_getD, List.getElem?_eq_getElem hn]
  simp
theorem ByAt.set {w : World} {g : Nat} {l : List Int} (q : ByAt w g l) (n : Nat) (z : Int) : ByAt (w.setCell ⟨g, n, none⟩ (.int .u8 z)) g (l.set n z) := set_cellsN n q (by
  apply Array.toList_inj.1
  simp [List.map_set])
theorem same_six {V : World} {g gb : Nat} {l l2 : List Int} (h : ByAt V g l) (h2 : ByAt V gb l2) (e : l.length = 6) (e2 : l2.length = 6) : Calls Tryd.prog 19 #[.slice (some ⟨g, 0, none⟩) 6 6, .slice (some ⟨gb, 0, none⟩) 6 6] V fun e w' => e = .returned (.bool (decide (l = l2))) ∧ Below V.heap.size V w' := by
  have := same_calls V (some ⟨g, 0, none⟩) 6 l (some ⟨gb, 0, none⟩) 6 l2 (row8_block h) (by omega) (row8_block h2) (by omega) (by omega)
  rw [e, e2] at this
  exact this.mono (fun _ _ q => ⟨q.1, q.2.below⟩)
def STu (w : World) (g0 g1 g2 g : Nat) (h1 p1 h2 p2 t0 t1 : Int) (l : List Int) (V : World) : Prop := Below w.heap.size w V ∧ AdAt V g0 h1 p1 ∧ AdAt V g1 h2 p2 ∧ TnAt V g2 t0 t1 ∧ ByAt V g l
theorem STu.below {w : World} {g0 g1 g2 g : Nat} {h1 p1 h2 p2 t0 t1 : Int} {l : List Int} {V V' : World} (hs : STu w g0 g1 g2 g h1 p1 h2 p2 t0 t1 l V) (hb : Below V.heap.size V V') : STu w g0 g1 g2 g h1 p1 h2 p2 t0 t1 l V' :=
  ⟨hs.1.trans (hb.mono hs.1.size), hs.2.1.below hb, hs.2.2.1.below hb, hs.2.2.2.1.below hb, hs.2.2.2.2.below hb⟩
theorem STu.by {w : World} {g0 g1 g2 g : Nat} {h1 p1 h2 p2 t0 t1 : Int} {l : List Int} {V : World} (hs : STu w g0 g1 g2 g h1 p1 h2 p2 t0 t1 l V) : ByAt V g l := hs.2.2.2.2
def STv (w : World) (g0 g2 g8 : Nat) (h1 p1 t0 t1 H P : Int) (V : World) : Prop := Below w.heap.size w V ∧ AdAt V g0 h1 p1 ∧ TnAt V g2 t0 t1 ∧ AdAt V g8 H P
set_option maxRecDepth 100000 in
set_option maxHeartbeats 8000000 in
theorem turned_calls (w : World) (hE : Env w) (h1 p1 h2 p2 t0 t1 : Int) (u1 : U32 h1) (j1 : -9223372036854775808 ≤ p1 ∧ p1 ≤ 9223372036854775807) (u2 : U32 h2) (j2 : -9223372036854775808 ≤ p2 ∧ p2 ≤ 9223372036854775807) (v0 : 0 ≤ t0 ∧ t0 ≤ 255) (v1 : 0 ≤ t1 ∧ t1 ≤ 255) : Calls Tryd.prog 6 #[.agg #[.int .u32 h1, .int .i64 p1], .agg #[.int .u32 h2, .int .i64 p2], .agg #[.int .u8 t0, .int .u8 t1]] w fun e w' => e = .returned (.bool true) ∧ Below w.heap.size w w' := by
  clear j1 j2
  obtain ⟨W1, hW1⟩ : ∃ W, w.alloc (.cells #[.int .u32 h1, .int .i64 p1] 24) = W := ⟨_, rfl⟩
  have hb1 : Below w.heap.size w W1 := by rw [← hW1]; exact (Below.refl _ _).alloc (Nat.le_refl _) _
  have hs1 : W1.heap.size = w.heap.size + 1 := by rw [← hW1, World.size_alloc]
  have ha1 : AdAt W1 w.heap.size h1 p1 := by rw [← hW1]; exact ad_new _ _ _
  obtain ⟨W2, hW2⟩ : ∃ W, W1.alloc (.cells #[.int .u32 h2, .int .i64 p2] 24) = W := ⟨_, rfl⟩
  have hb2 : Below W1.heap.size W1 W2 := by rw [← hW2]; exact (Below.refl _ _).alloc (Nat.le_refl _) _
  have hs2 : W2.heap.size = w.heap.size + 1 + 1 := by rw [← hW2, World.size_alloc, hs1]
  have ha2 : AdAt W2 (w.heap.size + 1) h2 p2 := by rw [← hW2, ← hs1]; exact ad_new _ _ _
  obtain ⟨W, hW⟩ : ∃ W, W2.alloc (.cells #[.int .u8 t0, .int .u8 t1] 36) = W := ⟨_, rfl⟩
  have hb3 : Below W2.heap.size W2 W := by rw [← hW]; exact (Below.refl _ _).alloc (Nat.le_refl _) _
  have ha3 : TnAt W (w.heap.size + 1 + 1) t0 t1 := by rw [← hW, ← hs2]; exact new_cellsN _ _ _
  have hbw := hb1.trans ((hb2.trans (hb3.mono hb2.size)).mono hb1.size)
  have HB := Lib.hid hbw
  have HA := Lib.hid ((ha1.below hb2).below hb3)
  have HC := Lib.hid (ha2.below hb3)
  have HD := Lib.hid ha3
  have KA := Lib.hid (awake_calls W (hE.below hbw))
  obtain ⟨m1, hm1⟩ : ∃ m, mayA h1 p1 = m := ⟨_, rfl⟩
  obtain ⟨m2, hm2⟩ : ∃ m, mayA h2 p2 = m := ⟨_, rfl⟩
  have KM1 := Lib.hid (fun V => may_calls V h1 p1)
  have KM2 := Lib.hid (fun V => may_calls V h2 p2)
  rw [hm1] at KM1
  rw [hm2] at KM2
  have HM1 := Lib.hid hm1
  have HM2 := Lib.hid hm2
  have HU := Lib.hid (And.intro u1 u2)
  have HV := Lib.hid (And.intro v0 v1)
  clear hb1 hb2 hb3 ha1 ha2 ha3 hbw hE hm1 hm2 u1 u2 v0 v1
  go_enter Tryd.func6, Tryd.ntmps6
  go_upto_region 1 with fail
  clear hW hW1 hW2 hs1 hs2
  go_upto_region 3 with (go_at_call 9; refine KA.out.mono ?_; rintro e w1 ⟨rfl, hb1⟩; have HB1 := Lib.hid (HB.out.trans (hb1.mono HB.out.size)); have HA1 := Lib.hid (HA.out.below hb1); have HC1 := Lib.hid (HC.out.below hb1); have HD1 := Lib.hid (HD.out.below hb1); clear hb1)
  obtain ⟨⟨a0, a1⟩, _⟩ := HA1.out.cells
  cases m1 with
  | false =>
    go_wp2_with (go_at_call 17; (with_reducible refine (KM1.out _).mono ?_); rintro e w2 ⟨rfl, hb2⟩; have HB2 := Lib.hid (HB1.out.trans (hb2.mono HB1.out.size)); clear hb2)
    go_ret
    exact ⟨rfl, HB2.out⟩
  | true =>
    cases m2 with
    | false =>
      go_wp2_with (first
        | (go_at_call 17; (with_reducible refine (KM1.out _).mono ?_); rintro e w2 ⟨rfl, hb2⟩; have HB2 := Lib.hid (HB1.out.trans (hb2.mono HB1.out.size)); have HC2 := Lib.hid (HC1.out.below hb2); obtain ⟨⟨c0, c1⟩, _⟩ := HC2.out.cells; clear hb2)
        | (go_at_call 17; (with_reducible refine (KM2.out _).mono ?_); rintro e w3 ⟨rfl, hb3⟩; have HB3 := Lib.hid (HB2.out.trans (hb3.mono HB2.out.size)); clear hb3))
      go_ret
      exact ⟨rfl, HB3.out⟩
    | true =>
      go_upto_region 5 with (first
        | (go_at_call 17; (with_reducible refine (KM1.out _).mono ?_); rintro e w2 ⟨rfl, hb2⟩; have HB2 := Lib.hid (HB1.out.trans (hb2.mono HB1.out.size)); have HA2 := Lib.hid (HA1.out.below hb2); have HC2 := Lib.hid (HC1.out.below hb2); have HD2 := Lib.hid (HD1.out.below hb2); obtain ⟨⟨c0, c1⟩, _⟩ := HC2.out.cells; clear hb2)
        | (go_at_call 17; (with_reducible refine (KM2.out _).mono ?_); rintro e w3 ⟨rfl, hb3⟩; have HB3 := Lib.hid (HB2.out.trans (hb3.mono HB2.out.size)); have HA3 := Lib.hid (HA2.out.below hb3); have HC3 := Lib.hid (HC2.out.below hb3); have HD3 := Lib.hid (HD2.out.below hb3); clear hb3))
      clear a0 a1 c0 c1
      obtain ⟨⟨a0, a1⟩, _⟩ := HA3.out.cells
      go_upto_region 6 with (go_at_call 18; (with_reducible refine (bytes_yes _ h1 p1 HU.out.1 HM1.out).mono ?_); rintro e w4 ⟨g, rfl, hge, hg, hb4⟩; have HGE := Lib.hid hge; have HG := Lib.hid hg; have HB4 := Lib.hid (HB3.out.trans (hb4.mono HB3.out.size)); have HA4 := Lib.hid (HA3.out.below hb4); have HC4 := Lib.hid (HC3.out.below hb4); have HD4 := Lib.hid (HD3.out.below hb4); clear hb4 hg hge)
      clear a0 a1
      have KB := Lib.hid (fun V => bytes_yes V h2 p2 HU.out.2 HM2.out)
      have hS0 : STu w w.heap.size (w.heap.size + 1) (w.heap.size + 1 + 1) g h1 p1 h2 p2 t0 t1 (bytesA h1 p1) w4.drew := STu.below (V := w4) ⟨HB4.out, HA4.out, HC4.out, HD4.out, HG.out⟩ (drew_below w4)
      obtain ⟨e0, he0⟩ : ∃ e, eqA h1 p1 h2 p2 = e := ⟨_, rfl⟩
      have hsp := same_plain HU.out.1 HU.out.2 HM1.out HM2.out
      rw [he0] at hsp
      have HSP := Lib.hid hsp
      clear hsp
      cases e0 with
      | true =>
        refine wp_region_held_drew (S := STu w w.heap.size (w.heap.size + 1) (w.heap.size + 1 + 1) g h1 p1 h2 p2 t0 t1 (bytesA h1 p1)) (by kernel_rfl) ?_ (fun hHeld => ?_)
        · exact hS0
        refine wpAnyH_take (i := 0) (v := ?_) rfl (by kernel_rfl) (by kernel_rfl) (by kernel_rfl) (fun _ _ _ h => h) (Or.inl ⟨by rfl, ?_⟩) (by assumption) ?_
        rotate_left
        · (intro w hSw; obtain ⟨_, hpw, hqw, htw, hyw⟩ := hSw; obtain ⟨⟨q0, q1⟩, _⟩ := hpw.cells; obtain ⟨⟨q2, q3⟩, _⟩ := hqw.cells; obtain ⟨q4, q5⟩ := htw.cells; go_simp; try with_reducible rfl)
        try simp only [Act.put, List.setIfInBounds_toArray, List.set_cons_zero, List.set_cons_succ, List.getElem_toArray, List.getElem_cons_succ, List.getElem_cons_zero]
        refine wpAnyH_take (i := 1) (v := ?_) rfl (by kernel_rfl) (by kernel_rfl) (by kernel_rfl) (fun _ _ _ h => h) (Or.inl ⟨by rfl, ?_⟩) (by assumption) ?_
        rotate_left
        · (intro w hSw; obtain ⟨_, hpw, hqw, htw, hyw⟩ := hSw; obtain ⟨⟨q0, q1⟩, _⟩ := hpw.cells; obtain ⟨⟨q2, q3⟩, _⟩ := hqw.cells; obtain ⟨q4, q5⟩ := htw.cells; go_simp; try with_reducible rfl)
        try simp only [Act.put, List.setIfInBounds_toArray, List.set_cons_zero, List.set_cons_succ, List.getElem_toArray, List.getElem_cons_succ, List.getElem_cons_zero]
        refine wpAnyH_take (i := 2) (v := ?_) rfl (by kernel_rfl) (by kernel_rfl) (by kernel_rfl) (fun _ _ _ h => h) (Or.inl ⟨by rfl, ?_⟩) (by assumption) ?_
        rotate_left
        · (intro w hSw; obtain ⟨_, hpw, hqw, htw, hyw⟩ := hSw; obtain ⟨⟨q0, q1⟩, _⟩ := hpw.cells; obtain ⟨⟨q2, q3⟩, _⟩ := hqw.cells; obtain ⟨q4, q5⟩ := htw.cells; go_simp; try with_reducible rfl)
        try simp only [Act.put, List.setIfInBounds_toArray, List.set_cons_zero, List.set_cons_succ, List.getElem_toArray, List.getElem_cons_succ, List.getElem_cons_zero]
        refine wpAnyH_take (i := 3) (v := ?_) rfl (by kernel_rfl) (by kernel_rfl) (by kernel_rfl) (fun _ _ _ h => h) (Or.inl ⟨by rfl, ?_⟩) (by assumption) ?_
        rotate_left
        · (intro w hSw; obtain ⟨_, hpw, hqw, htw, hyw⟩ := hSw; obtain ⟨⟨q0, q1⟩, _⟩ := hpw.cells; obtain ⟨⟨q2, q3⟩, _⟩ := hqw.cells; obtain ⟨q4, q5⟩ := htw.cells; go_simp; try with_reducible rfl)
        try simp only [Act.put, List.setIfInBounds_toArray, List.set_cons_zero, List.set_cons_succ, List.getElem_toArray, List.getElem_cons_succ, List.getElem_cons_zero]
        refine wpAnyH_take (i := 4) (v := ?_) rfl (by kernel_rfl) (by kernel_rfl) (by kernel_rfl) (fun _ _ _ h => h) (Or.inl ⟨by rfl, ?_⟩) (by assumption) ?_
        rotate_left
        · (intro w hSw; obtain ⟨_, hpw, hqw, htw, hyw⟩ := hSw; obtain ⟨⟨q0, q1⟩, _⟩ := hpw.cells; obtain ⟨⟨q2, q3⟩, _⟩ := hqw.cells; obtain ⟨q4, q5⟩ := htw.cells; go_simp; try with_reducible rfl)
        try simp only [Act.put, List.setIfInBounds_toArray, List.set_cons_zero, List.set_cons_succ, List.getElem_toArray, List.getElem_cons_succ, List.getElem_cons_zero]
        refine wpAnyH_take (i := 5) (v := ?_) rfl (by kernel_rfl) (by kernel_rfl) (by kernel_rfl) (fun _ _ _ h => h) (Or.inl ⟨by rfl, ?_⟩) (by assumption) ?_
        rotate_left
        · (intro w hSw; obtain ⟨_, hpw, hqw, htw, hyw⟩ := hSw; obtain ⟨⟨q0, q1⟩, _⟩ := hpw.cells; obtain ⟨⟨q2, q3⟩, _⟩ := hqw.cells; obtain ⟨q4, q5⟩ := htw.cells; go_simp; try with_reducible rfl)
        try simp only [Act.put, List.setIfInBounds_toArray, List.set_cons_zero, List.set_cons_succ, List.getElem_toArray, List.getElem_cons_succ, List.getElem_cons_zero]
        refine wpAnyH_take (i := 8) (v := ?_) rfl (by kernel_rfl) (by kernel_rfl) (by kernel_rfl) (fun _ _ _ h => h) (Or.inl ⟨by rfl, ?_⟩) (by assumption) ?_
        rotate_left
        · (intro w hSw; obtain ⟨_, hpw, hqw, htw, hyw⟩ := hSw; obtain ⟨⟨q0, q1⟩, _⟩ := hpw.cells; obtain ⟨⟨q2, q3⟩, _⟩ := hqw.cells; obtain ⟨q4, q5⟩ := htw.cells; go_simp; try with_reducible rfl)
        try simp only [Act.put, List.setIfInBounds_toArray, List.set_cons_zero, List.set_cons_succ, List.getElem_toArray, List.getElem_cons_succ, List.getElem_cons_zero]
        refine wpAnyH_take (i := 9) (v := ?_) rfl (by kernel_rfl) (by kernel_rfl) (by kernel_rfl) (fun _ _ _ h => h) (Or.inl ⟨by rfl, ?_⟩) (by assumption) ?_
        rotate_left
        · (intro w hSw; obtain ⟨_, hpw, hqw, htw, hyw⟩ := hSw; obtain ⟨⟨q0, q1⟩, _⟩ := hpw.cells; obtain ⟨⟨q2, q3⟩, _⟩ := hqw.cells; obtain ⟨q4, q5⟩ := htw.cells; go_simp; try with_reducible rfl)
        try simp only [Act.put, List.setIfInBounds_toArray, List.set_cons_zero, List.set_cons_succ, List.getElem_toArray, List.getElem_cons_succ, List.getElem_cons_zero]
        refine wpAnyH_take (i := 10) (v := ?_) rfl (by kernel_rfl) (by kernel_rfl) (by kernel_rfl) (fun _ _ _ h => h) (Or.inl ⟨by rfl, ?_⟩) (by assumption) ?_
        rotate_left
        · (intro w hSw; obtain ⟨_, hpw, hqw, htw, hyw⟩ := hSw; obtain ⟨⟨q0, q1⟩, _⟩ := hpw.cells; obtain ⟨⟨q2, q3⟩, _⟩ := hqw.cells; obtain ⟨q4, q5⟩ := htw.cells; go_simp; try with_reducible rfl)
        try simp only [Act.put, List.setIfInBounds_toArray, List.set_cons_zero, List.set_cons_succ, List.getElem_toArray, List.getElem_cons_succ, List.getElem_cons_zero]
        refine wpAnyH_ready (rs := [6]) (by kernel_rfl) (by simp) ?_
        refine AllReadyH.cons rfl (fun K hK => ?_) AllReadyH.nil
        go_simp
        go_at_call 18; (with_reducible refine (KB.out _).mono ?_); rintro e wn2 ⟨gb, rfl, _, hgb, hbn⟩; have hSN := hHeld.below hbn; have HGB := Lib.hid hgb; clear hbn hgb
        refine hK.out _ _ ?_ (fun hHeld => ?_)
        · exact hSN
        clear hK K
        try simp only [Act.put, List.setIfInBounds_toArray, List.set_cons_zero, List.set_cons_succ, List.getElem_toArray, List.getElem_cons_succ, List.getElem_cons_zero]
        refine wpAnyH_ready (rs := [7]) (by kernel_rfl) (by simp) ?_
        refine AllReadyH.cons rfl (fun K hK => ?_) AllReadyH.nil
        go_simp
        go_at_call 19; refine (same_six hHeld.by HGB.out rfl rfl).mono ?_; rintro e wn3 ⟨he, hbn⟩; rw [HSP.out] at he; subst he; have hSN := hHeld.below hbn; clear hbn
        refine hK.out _ _ ?_ (fun hHeld => ?_)
        · exact hSN
        clear hK K
        try simp only [Act.put, List.setIfInBounds_toArray, List.set_cons_zero, List.set_cons_succ, List.getElem_toArray, List.getElem_cons_succ, List.getElem_cons_zero]
        refine wpAnyH_take (i := 11) (v := ?_) rfl (by kernel_rfl) (by kernel_rfl) (by kernel_rfl) (fun _ _ _ h => h) (Or.inl ⟨by rfl, ?_⟩) (by assumption) ?_
        rotate_left
        · (intro w hSw; obtain ⟨_, hpw, hqw, htw, hyw⟩ := hSw; obtain ⟨⟨q0, q1⟩, _⟩ := hpw.cells; obtain ⟨⟨q2, q3⟩, _⟩ := hqw.cells; obtain ⟨q4, q5⟩ := htw.cells; go_simp; try with_reducible rfl)
        try simp only [Act.put, List.setIfInBounds_toArray, List.set_cons_zero, List.set_cons_succ, List.getElem_toArray, List.getElem_cons_succ, List.getElem_cons_zero]
        refine wpAnyH_take (i := 12) (v := ?_) rfl (by kernel_rfl) (by kernel_rfl) (by kernel_rfl) (fun _ _ _ h => h) (Or.inl ⟨by rfl, ?_⟩) (by assumption) ?_
        rotate_left
        · (intro w hSw; obtain ⟨_, hpw, hqw, htw, hyw⟩ := hSw; obtain ⟨⟨q0, q1⟩, _⟩ := hpw.cells; obtain ⟨⟨q2, q3⟩, _⟩ := hqw.cells; obtain ⟨q4, q5⟩ := htw.cells; go_simp; try with_reducible rfl)
        try simp only [Act.put, List.setIfInBounds_toArray, List.set_cons_zero, List.set_cons_succ, List.getElem_toArray, List.getElem_cons_succ, List.getElem_cons_zero]
        refine wpAnyH_done (by kernel_rfl) ?_ _
        dsimp only [Exit.then]
        go_upto_region 8 with fail
        have hx9 := hHeld
        obtain ⟨U, hU⟩ : ∃ U, wn3 = U := ⟨_, rfl⟩
        rw [hU] at hx9 ⊢
        obtain ⟨n, hn, hn6⟩ : ∃ n : Nat, t0 % 6 = (n : Int) ∧ n < 6 := ⟨(t0 % 6).toNat, by omega, by omega⟩
        have HN : Hid (n < (bytesA h1 p1).length) := Lib.hid hn6
        obtain ⟨xn, hxn⟩ : ∃ x, (bytesA h1 p1).getD n 0 = x := ⟨_, rfl⟩
        have hv0 := HV.out.1
        have r0 : IntKind.i64.wrap t0 = t0 := by rw [IntKind.wrap_i64]; omega
        have r1 : wrap64 t0 = t0 := by unfold wrap64; omega
        have r2 : Int.tmod t0 6 = (n : Int) := by rw [Int.tmod_eq_emod_of_nonneg (by omega), hn]
        have r3 : (n : Int) < 6 := by omega
        have r4 : wrap64 (n : Int) = n := by unfold wrap64; omega
        obtain ⟨z, hz⟩ : ∃ z, Go.bits .xor .u8 xn t1 = z := ⟨_, rfl⟩
        have hpl := turned_plain (z := z) HU.out.1 HM1.out hn6 HV.out.2 (by rw [hxn]; exact hz)
        have HPL := Lib.hid hpl
        have HXN := Lib.hid hxn
        have hS1 : STu w w.heap.size (w.heap.size + 1) (w.heap.size + 1 + 1) g h1 p1 h2 p2 t0 t1 (bytesA h1 p1) U.drew := STu.below hx9 (drew_below U)
        have y6 := hS1.by.cell n HN.out
        rw [HXN.out] at y6
        have f6 : U.drew.frozen? ⟨g, n, none⟩ = false := frozen_cellsN hS1.by n
        clear hn hn6 hxn hv0 hpl hU hx9 hS0 HG KB HSP he0
        refine wp_region_last_drew (ds := [16]) (S := STu w w.heap.size (w.heap.size + 1) (w.heap.size + 1 + 1) g h1 p1 h2 p2 t0 t1 (bytesA h1 p1)) (by kernel_rfl) ?_ (fun hHeld => ?_)
        · exact hS1
        refine wpAnyLast_take (i := 0) (v := ?_) rfl (by kernel_rfl) (by kernel_rfl) (by kernel_rfl) (by kernel_rfl) (by kernel_rfl) (fun _ _ _ h => h) (Or.inl ⟨by rfl, ?_⟩) (by assumption) ?_
        rotate_left
        · (intro w hSw; obtain ⟨_, hpw, hqw, htw, hyw⟩ := hSw; obtain ⟨⟨q0, q1⟩, _⟩ := hpw.cells; obtain ⟨⟨q2, q3⟩, _⟩ := hqw.cells; obtain ⟨q4, q5⟩ := htw.cells; have q6 := hyw.cell n HN.out; rw [HXN.out] at q6; go_simp; try with_reducible rfl)
        try simp only [Act.put, List.setIfInBounds_toArray, List.set_cons_zero, List.set_cons_succ, List.getElem_toArray, List.getElem_cons_succ, List.getElem_cons_zero]
        refine wpAnyLast_take (i := 1) (v := ?_) rfl (by kernel_rfl) (by kernel_rfl) (by kernel_rfl) (by kernel_rfl) (by kernel_rfl) (fun _ _ _ h => h) (Or.inl ⟨by rfl, ?_⟩) (by assumption) ?_
        rotate_left
        · (intro w hSw; obtain ⟨_, hpw, hqw, htw, hyw⟩ := hSw; obtain ⟨⟨q0, q1⟩, _⟩ := hpw.cells; obtain ⟨⟨q2, q3⟩, _⟩ := hqw.cells; obtain ⟨q4, q5⟩ := htw.cells; have q6 := hyw.cell n HN.out; rw [HXN.out] at q6; go_simp; try with_reducible rfl)
        try simp only [Act.put, List.setIfInBounds_toArray, List.set_cons_zero, List.set_cons_succ, List.getElem_toArray, List.getElem_cons_succ, List.getElem_cons_zero]
        refine wpAnyLast_take (i := 2) (v := ?_) rfl (by kernel_rfl) (by kernel_rfl) (by kernel_rfl) (by kernel_rfl) (by kernel_rfl) (fun _ _ _ h => h) (Or.inl ⟨by rfl, ?_⟩) (by assumption) ?_
        rotate_left
        · (intro w hSw; obtain ⟨_, hpw, hqw, htw, hyw⟩ := hSw; obtain ⟨⟨q0, q1⟩, _⟩ := hpw.cells; obtain ⟨⟨q2, q3⟩, _⟩ := hqw.cells; obtain ⟨q4, q5⟩ := htw.cells; have q6 := hyw.cell n HN.out; rw [HXN.out] at q6; go_simp; try with_reducible rfl)
        try simp only [Act.put, List.setIfInBounds_toArray, List.set_cons_zero, List.set_cons_succ, List.getElem_toArray, List.getElem_cons_succ, List.getElem_cons_zero]
        refine wpAnyLast_take (i := 3) (v := ?_) rfl (by kernel_rfl) (by kernel_rfl) (by kernel_rfl) (by kernel_rfl) (by kernel_rfl) (fun _ _ _ h => h) (Or.inl ⟨by rfl, ?_⟩) (by assumption) ?_
        rotate_left
        · (intro w hSw; obtain ⟨_, hpw, hqw, htw, hyw⟩ := hSw; obtain ⟨⟨q0, q1⟩, _⟩ := hpw.cells; obtain ⟨⟨q2, q3⟩, _⟩ := hqw.cells; obtain ⟨q4, q5⟩ := htw.cells; have q6 := hyw.cell n HN.out; rw [HXN.out] at q6; go_simp; try with_reducible rfl)
        try simp only [Act.put, List.setIfInBounds_toArray, List.set_cons_zero, List.set_cons_succ, List.getElem_toArray, List.getElem_cons_succ, List.getElem_cons_zero]
        refine wpAnyLast_take (i := 4) (v := ?_) rfl (by kernel_rfl) (by kernel_rfl) (by kernel_rfl) (by kernel_rfl) (by kernel_rfl) (fun _ _ _ h => h) (Or.inl ⟨by rfl, ?_⟩) (by assumption) ?_
        rotate_left
        · (intro w hSw; obtain ⟨_, hpw, hqw, htw, hyw⟩ := hSw; obtain ⟨⟨q0, q1⟩, _⟩ := hpw.cells; obtain ⟨⟨q2, q3⟩, _⟩ := hqw.cells; obtain ⟨q4, q5⟩ := htw.cells; have q6 := hyw.cell n HN.out; rw [HXN.out] at q6; go_simp; try with_reducible rfl)
        try simp only [Act.put, List.setIfInBounds_toArray, List.set_cons_zero, List.set_cons_succ, List.getElem_toArray, List.getElem_cons_succ, List.getElem_cons_zero]
        refine wpAnyLast_take (i := 5) (v := ?_) rfl (by kernel_rfl) (by kernel_rfl) (by kernel_rfl) (by kernel_rfl) (by kernel_rfl) (fun _ _ _ h => h) (Or.inl ⟨by rfl, ?_⟩) (by assumption) ?_
        rotate_left
        · (intro w hSw; obtain ⟨_, hpw, hqw, htw, hyw⟩ := hSw; obtain ⟨⟨q0, q1⟩, _⟩ := hpw.cells; obtain ⟨⟨q2, q3⟩, _⟩ := hqw.cells; obtain ⟨q4, q5⟩ := htw.cells; have q6 := hyw.cell n HN.out; rw [HXN.out] at q6; go_simp; try with_reducible rfl)
        try simp only [Act.put, List.setIfInBounds_toArray, List.set_cons_zero, List.set_cons_succ, List.getElem_toArray, List.getElem_cons_succ, List.getElem_cons_zero]
        refine wpAnyLast_take (i := 6) (v := ?_) rfl (by kernel_rfl) (by kernel_rfl) (by kernel_rfl) (by kernel_rfl) (by kernel_rfl) (fun _ _ _ h => h) (Or.inl ⟨by rfl, ?_⟩) (by assumption) ?_
        rotate_left
        · (intro w hSw; obtain ⟨_, hpw, hqw, htw, hyw⟩ := hSw; obtain ⟨⟨q0, q1⟩, _⟩ := hpw.cells; obtain ⟨⟨q2, q3⟩, _⟩ := hqw.cells; obtain ⟨q4, q5⟩ := htw.cells; have q6 := hyw.cell n HN.out; rw [HXN.out] at q6; go_simp; try with_reducible rfl)
        try simp only [Act.put, List.setIfInBounds_toArray, List.set_cons_zero, List.set_cons_succ, List.getElem_toArray, List.getElem_cons_succ, List.getElem_cons_zero]
        refine wpAnyLast_take (i := 7) (v := ?_) rfl (by kernel_rfl) (by kernel_rfl) (by kernel_rfl) (by kernel_rfl) (by kernel_rfl) (fun _ _ _ h => h) (Or.inl ⟨by rfl, ?_⟩) (by assumption) ?_
        rotate_left
        · (intro w hSw; obtain ⟨_, hpw, hqw, htw, hyw⟩ := hSw; obtain ⟨⟨q0, q1⟩, _⟩ := hpw.cells; obtain ⟨⟨q2, q3⟩, _⟩ := hqw.cells; obtain ⟨q4, q5⟩ := htw.cells; have q6 := hyw.cell n HN.out; rw [HXN.out] at q6; go_simp; try with_reducible rfl)
        try simp only [Act.put, List.setIfInBounds_toArray, List.set_cons_zero, List.set_cons_succ, List.getElem_toArray, List.getElem_cons_succ, List.getElem_cons_zero]
        refine wpAnyLast_take (i := 8) (v := ?_) rfl (by kernel_rfl) (by kernel_rfl) (by kernel_rfl) (by kernel_rfl) (by kernel_rfl) (fun _ _ _ h => h) (Or.inl ⟨by rfl, ?_⟩) (by assumption) ?_
        rotate_left
        · (intro w hSw; obtain ⟨_, hpw, hqw, htw, hyw⟩ := hSw; obtain ⟨⟨q0, q1⟩, _⟩ := hpw.cells; obtain ⟨⟨q2, q3⟩, _⟩ := hqw.cells; obtain ⟨q4, q5⟩ := htw.cells; have q6 := hyw.cell n HN.out; rw [HXN.out] at q6; go_simp; try with_reducible rfl)
        try simp only [Act.put, List.setIfInBounds_toArray, List.set_cons_zero, List.set_cons_succ, List.getElem_toArray, List.getElem_cons_succ, List.getElem_cons_zero]
        refine wpAnyLast_take (i := 9) (v := ?_) rfl (by kernel_rfl) (by kernel_rfl) (by kernel_rfl) (by kernel_rfl) (by kernel_rfl) (fun _ _ _ h => h) (Or.inl ⟨by rfl, ?_⟩) (by assumption) ?_
        rotate_left
        · (intro w hSw; obtain ⟨_, hpw, hqw, htw, hyw⟩ := hSw; obtain ⟨⟨q0, q1⟩, _⟩ := hpw.cells; obtain ⟨⟨q2, q3⟩, _⟩ := hqw.cells; obtain ⟨q4, q5⟩ := htw.cells; have q6 := hyw.cell n HN.out; rw [HXN.out] at q6; go_simp; try with_reducible rfl)
        try simp only [Act.put, List.setIfInBounds_toArray, List.set_cons_zero, List.set_cons_succ, List.getElem_toArray, List.getElem_cons_succ, List.getElem_cons_zero]
        refine wpAnyLast_take (i := 10) (v := ?_) rfl (by kernel_rfl) (by kernel_rfl) (by kernel_rfl) (by kernel_rfl) (by kernel_rfl) (fun _ _ _ h => h) (Or.inl ⟨by rfl, ?_⟩) (by assumption) ?_
        rotate_left
        · (intro w hSw; obtain ⟨_, hpw, hqw, htw, hyw⟩ := hSw; obtain ⟨⟨q0, q1⟩, _⟩ := hpw.cells; obtain ⟨⟨q2, q3⟩, _⟩ := hqw.cells; obtain ⟨q4, q5⟩ := htw.cells; have q6 := hyw.cell n HN.out; rw [HXN.out] at q6; go_simp; try with_reducible rfl)
        try simp only [Act.put, List.setIfInBounds_toArray, List.set_cons_zero, List.set_cons_succ, List.getElem_toArray, List.getElem_cons_succ, List.getElem_cons_zero]
        refine wpAnyLast_take (i := 11) (v := ?_) rfl (by kernel_rfl) (by kernel_rfl) (by kernel_rfl) (by kernel_rfl) (by kernel_rfl) (fun _ _ _ h => h) (Or.inl ⟨by rfl, ?_⟩) (by assumption) ?_
        rotate_left
        · (intro w hSw; obtain ⟨_, hpw, hqw, htw, hyw⟩ := hSw; obtain ⟨⟨q0, q1⟩, _⟩ := hpw.cells; obtain ⟨⟨q2, q3⟩, _⟩ := hqw.cells; obtain ⟨q4, q5⟩ := htw.cells; have q6 := hyw.cell n HN.out; rw [HXN.out] at q6; go_simp; try with_reducible rfl)
        try simp only [Act.put, List.setIfInBounds_toArray, List.set_cons_zero, List.set_cons_succ, List.getElem_toArray, List.getElem_cons_succ, List.getElem_cons_zero]
        refine wpAnyLast_take (i := 12) (v := ?_) rfl (by kernel_rfl) (by kernel_rfl) (by kernel_rfl) (by kernel_rfl) (by kernel_rfl) (fun _ _ _ h => h) (Or.inl ⟨by rfl, ?_⟩) (by assumption) ?_
        rotate_left
        · (intro w hSw; obtain ⟨_, hpw, hqw, htw, hyw⟩ := hSw; obtain ⟨⟨q0, q1⟩, _⟩ := hpw.cells; obtain ⟨⟨q2, q3⟩, _⟩ := hqw.cells; obtain ⟨q4, q5⟩ := htw.cells; have q6 := hyw.cell n HN.out; rw [HXN.out] at q6; go_simp; try with_reducible rfl)
        try simp only [Act.put, List.setIfInBounds_toArray, List.set_cons_zero, List.set_cons_succ, List.getElem_toArray, List.getElem_cons_succ, List.getElem_cons_zero]
        refine wpAnyLast_take (i := 13) (v := ?_) rfl (by kernel_rfl) (by kernel_rfl) (by kernel_rfl) (by kernel_rfl) (by kernel_rfl) (fun _ _ _ h => h) (Or.inl ⟨by rfl, ?_⟩) (by assumption) ?_
        rotate_left
        · (intro w hSw; obtain ⟨_, hpw, hqw, htw, hyw⟩ := hSw; obtain ⟨⟨q0, q1⟩, _⟩ := hpw.cells; obtain ⟨⟨q2, q3⟩, _⟩ := hqw.cells; obtain ⟨q4, q5⟩ := htw.cells; have q6 := hyw.cell n HN.out; rw [HXN.out] at q6; go_simp; try with_reducible rfl)
        try simp only [Act.put, List.setIfInBounds_toArray, List.set_cons_zero, List.set_cons_succ, List.getElem_toArray, List.getElem_cons_succ, List.getElem_cons_zero]
        refine wpAnyLast_take (i := 14) (v := ?_) rfl (by kernel_rfl) (by kernel_rfl) (by kernel_rfl) (by kernel_rfl) (by kernel_rfl) (fun _ _ _ h => h) (Or.inl ⟨by rfl, ?_⟩) (by assumption) ?_
        rotate_left
        · (intro w hSw; obtain ⟨_, hpw, hqw, htw, hyw⟩ := hSw; obtain ⟨⟨q0, q1⟩, _⟩ := hpw.cells; obtain ⟨⟨q2, q3⟩, _⟩ := hqw.cells; obtain ⟨q4, q5⟩ := htw.cells; have q6 := hyw.cell n HN.out; rw [HXN.out] at q6; go_simp; try with_reducible rfl)
        try simp only [Act.put, List.setIfInBounds_toArray, List.set_cons_zero, List.set_cons_succ, List.getElem_toArray, List.getElem_cons_succ, List.getElem_cons_zero]
        refine wpAnyLast_take (i := 15) (v := ?_) rfl (by kernel_rfl) (by kernel_rfl) (by kernel_rfl) (by kernel_rfl) (by kernel_rfl) (fun _ _ _ h => h) (Or.inl ⟨by rfl, ?_⟩) (by assumption) ?_
        rotate_left
        · (intro w hSw; obtain ⟨_, hpw, hqw, htw, hyw⟩ := hSw; obtain ⟨⟨q0, q1⟩, _⟩ := hpw.cells; obtain ⟨⟨q2, q3⟩, _⟩ := hqw.cells; obtain ⟨q4, q5⟩ := htw.cells; have q6 := hyw.cell n HN.out; rw [HXN.out] at q6; go_simp; try with_reducible rfl)
        try simp only [Act.put, List.setIfInBounds_toArray, List.set_cons_zero, List.set_cons_succ, List.getElem_toArray, List.getElem_cons_succ, List.getElem_cons_zero]
        refine wpAnyLast_ready (rs := [16]) (by kernel_rfl) (by simp) ?_
        refine AllReadyL.cons_last rfl (by simp) (fun K hK => ?_) AllReadyL.nil
        go_simp
        skip
        refine hK.out _ _ ?_
        clear hK K
        try simp only [Act.put, List.setIfInBounds_toArray, List.set_cons_zero, List.set_cons_succ, List.getElem_toArray, List.getElem_cons_succ, List.getElem_cons_zero]
        refine wpAnyLast_done (by kernel_rfl) ?_ _
        dsimp only [Exit.then]
        have hb8 : Below w.heap.size w (U.setCell ⟨g, n, none⟩ (.int .u8 z)).drew := hS1.1.setCell (p := ⟨g, n, none⟩) (by have := HGE.out; have := HB3.out.size; show w.heap.size ≤ g; omega) _
        have hne : ∀ k, k < w3.heap.size → k ≠ g := fun k hk e => by have := HGE.out; omega
        have hlt : w.heap.size + 1 + 1 < w3.heap.size := (Array.getElem?_eq_some_iff.1 HD3.out).1
        have ha8 : AdAt (U.setCell ⟨g, n, none⟩ (.int .u8 z)).drew w.heap.size h1 p1 := hS1.2.1.other (hne _ (by omega)) _
        have hd8 : TnAt (U.setCell ⟨g, n, none⟩ (.int .u8 z)).drew (w.heap.size + 1 + 1) t0 t1 := hS1.2.2.2.1.other (hne _ hlt) _
        have hy8 : ByAt (U.setCell ⟨g, n, none⟩ (.int .u8 z)).drew g ((bytesA h1 p1).set n z) := hS1.2.2.2.2.set n z
        obtain ⟨U8, hU8⟩ : ∃ V, (U.setCell ⟨g, n, none⟩ (.int .u8 z)).drew = V := ⟨_, rfl⟩
        rw [hU8] at hb8 ha8 hd8 hy8 ⊢
        have HB8 := Lib.hid hb8
        have HA8 := Lib.hid ha8
        have HD8 := Lib.hid hd8
        have KF := Lib.hid (fb_calls U8 (some ⟨g, 0, none⟩) 6 6 ((bytesA h1 p1).set n z) (by rw [List.length_set]; rfl) (row8_block hy8) (Nat.le_refl _) HPL.out.1)
        have hcs := HPL.out.2
        clear hb8 ha8 hd8 hy8 hU8 hne hlt hS1 r0 r1 r2 r3 r4 y6 f6 HPL HXN hz
        obtain ⟨H, P, C, hfb⟩ : ∃ H P C, fbV ((bytesA h1 p1).set n z) = (H, P, C) := ⟨_, _, _, rfl⟩
        rw [hfb] at KF hcs
        dsimp only at KF
        go_upto_region 10 with (go_at_call 20; (with_reducible refine KF.out.mono ?_); rintro e w9 ⟨rfl, hb9⟩; have HB9 := Lib.hid (HB8.out.trans (hb9.mono HB8.out.size)); have HA9 := Lib.hid (HA8.out.below hb9); have HD9 := Lib.hid (HD8.out.below hb9); clear hb9)
        obtain ⟨W9, hW9⟩ : ∃ V, w9.alloc (.cells #[.int .u32 H, .int .i64 P] 24) = V := ⟨_, rfl⟩
        have hb9 : Below w9.heap.size w9 W9 := by rw [← hW9]; exact (Below.refl _ _).alloc (Nat.le_refl _) _
        have hp9 : AdAt W9 w9.heap.size H P := by rw [← hW9]; exact ad_new _ _ _
        rw [hW9]
        clear hW9
        obtain ⟨g8, hg8⟩ : ∃ g, w9.heap.size = g := ⟨_, rfl⟩
        rw [hg8] at hp9 ⊢
        have hS2 : STv w w.heap.size (w.heap.size + 1 + 1) g8 h1 p1 t0 t1 H P W9.drew := ⟨(HB9.out.trans (hb9.mono HB9.out.size)).trans ((drew_below W9).mono (HB9.out.trans (hb9.mono HB9.out.size)).size), (HA9.out.below hb9).below (drew_below W9), (HD9.out.below hb9).below (drew_below W9), hp9.below (drew_below W9)⟩
        clear hb9 hp9 hg8 hfb KF
        rcases hcs with ⟨H', P', he, hq⟩ | ⟨he, hq⟩
        · injection he with he1 he2
          injection he2 with he2 he3
          subst he1 he2 he3
          obtain ⟨b, hb⟩ : ∃ b, eqA H P h1 p1 = b := ⟨_, rfl⟩
          rw [hb] at hq
          replace hq := hq.symm
          cases b with
          | true =>
            refine wp_region_held_drew (S := STv w w.heap.size (w.heap.size + 1 + 1) g8 h1 p1 t0 t1 H P) (by kernel_rfl) ?_ (fun hHeld => ?_)
            · exact hS2
            refine wpAnyH_take (i := 0) (v := ?_) rfl (by kernel_rfl) (by kernel_rfl) (by kernel_rfl) (fun _ _ _ h => h) (Or.inl ⟨by rfl, ?_⟩) (by assumption) ?_
            rotate_left
            · (intro w hSw; obtain ⟨_, hpw, htw, hxw⟩ := hSw; obtain ⟨⟨q0, q1⟩, _⟩ := hpw.cells; obtain ⟨⟨q2, q3⟩, _⟩ := hxw.cells; obtain ⟨q4, q5⟩ := htw.cells; go_simp; try with_reducible rfl)
            try simp only [Act.put, List.setIfInBounds_toArray, List.set_cons_zero, List.set_cons_succ, List.getElem_toArray, List.getElem_cons_succ, List.getElem_cons_zero]
            refine wpAnyH_take (i := 1) (v := ?_) rfl (by kernel_rfl) (by kernel_rfl) (by kernel_rfl) (fun _ _ _ h => h) (Or.inl ⟨by rfl, ?_⟩) (by assumption) ?_
            rotate_left
            · (intro w hSw; obtain ⟨_, hpw, htw, hxw⟩ := hSw; obtain ⟨⟨q0, q1⟩, _⟩ := hpw.cells; obtain ⟨⟨q2, q3⟩, _⟩ := hxw.cells; obtain ⟨q4, q5⟩ := htw.cells; go_simp; try with_reducible rfl)
            try simp only [Act.put, List.setIfInBounds_toArray, List.set_cons_zero, List.set_cons_succ, List.getElem_toArray, List.getElem_cons_succ, List.getElem_cons_zero]
            refine wpAnyH_take (i := 2) (v := ?_) rfl (by kernel_rfl) (by kernel_rfl) (by kernel_rfl) (fun _ _ _ h => h) (Or.inl ⟨by rfl, ?_⟩) (by assumption) ?_
            rotate_left
            · (intro w hSw; obtain ⟨_, hpw, htw, hxw⟩ := hSw; obtain ⟨⟨q0, q1⟩, _⟩ := hpw.cells; obtain ⟨⟨q2, q3⟩, _⟩ := hxw.cells; obtain ⟨q4, q5⟩ := htw.cells; go_simp; try with_reducible rfl)
            try simp only [Act.put, List.setIfInBounds_toArray, List.set_cons_zero, List.set_cons_succ, List.getElem_toArray, List.getElem_cons_succ, List.getElem_cons_zero]
            refine wpAnyH_take (i := 3) (v := ?_) rfl (by kernel_rfl) (by kernel_rfl) (by kernel_rfl) (fun _ _ _ h => h) (Or.inl ⟨by rfl, ?_⟩) (by assumption) ?_
            rotate_left
            · (intro w hSw; obtain ⟨_, hpw, htw, hxw⟩ := hSw; obtain ⟨⟨q0, q1⟩, _⟩ := hpw.cells; obtain ⟨⟨q2, q3⟩, _⟩ := hxw.cells; obtain ⟨q4, q5⟩ := htw.cells; go_simp; try with_reducible rfl)
            try simp only [Act.put, List.setIfInBounds_toArray, List.set_cons_zero, List.set_cons_succ, List.getElem_toArray, List.getElem_cons_succ, List.getElem_cons_zero]
            refine wpAnyH_take (i := 4) (v := ?_) rfl (by kernel_rfl) (by kernel_rfl) (by kernel_rfl) (fun _ _ _ h => h) (Or.inl ⟨by rfl, ?_⟩) (by assumption) ?_
            rotate_left
            · (intro w hSw; obtain ⟨_, hpw, htw, hxw⟩ := hSw; obtain ⟨⟨q0, q1⟩, _⟩ := hpw.cells; obtain ⟨⟨q2, q3⟩, _⟩ := hxw.cells; obtain ⟨q4, q5⟩ := htw.cells; go_simp; try with_reducible rfl)
            try simp only [Act.put, List.setIfInBounds_toArray, List.set_cons_zero, List.set_cons_succ, List.getElem_toArray, List.getElem_cons_succ, List.getElem_cons_zero]
            refine wpAnyH_take (i := 5) (v := ?_) rfl (by kernel_rfl) (by kernel_rfl) (by kernel_rfl) (fun _ _ _ h => h) (Or.inl ⟨by rfl, ?_⟩) (by assumption) ?_
            rotate_left
            · (intro w hSw; obtain ⟨_, hpw, htw, hxw⟩ := hSw; obtain ⟨⟨q0, q1⟩, _⟩ := hpw.cells; obtain ⟨⟨q2, q3⟩, _⟩ := hxw.cells; obtain ⟨q4, q5⟩ := htw.cells; go_simp; try with_reducible rfl)
            try simp only [Act.put, List.setIfInBounds_toArray, List.set_cons_zero, List.set_cons_succ, List.getElem_toArray, List.getElem_cons_succ, List.getElem_cons_zero]
            refine wpAnyH_take (i := 6) (v := ?_) rfl (by kernel_rfl) (by kernel_rfl) (by kernel_rfl) (fun _ _ _ h => h) (Or.inl ⟨by rfl, ?_⟩) (by assumption) ?_
            rotate_left
            · (intro w hSw; obtain ⟨_, hpw, htw, hxw⟩ := hSw; obtain ⟨⟨q0, q1⟩, _⟩ := hpw.cells; obtain ⟨⟨q2, q3⟩, _⟩ := hxw.cells; obtain ⟨q4, q5⟩ := htw.cells; go_simp; try with_reducible rfl)
            try simp only [Act.put, List.setIfInBounds_toArray, List.set_cons_zero, List.set_cons_succ, List.getElem_toArray, List.getElem_cons_succ, List.getElem_cons_zero]
            refine wpAnyH_take (i := 7) (v := ?_) rfl (by kernel_rfl) (by kernel_rfl) (by kernel_rfl) (fun _ _ _ h => h) (Or.inl ⟨by rfl, ?_⟩) (by assumption) ?_
            rotate_left
            · (intro w hSw; obtain ⟨_, hpw, htw, hxw⟩ := hSw; obtain ⟨⟨q0, q1⟩, _⟩ := hpw.cells; obtain ⟨⟨q2, q3⟩, _⟩ := hxw.cells; obtain ⟨q4, q5⟩ := htw.cells; go_simp; try with_reducible rfl)
            try simp only [Act.put, List.setIfInBounds_toArray, List.set_cons_zero, List.set_cons_succ, List.getElem_toArray, List.getElem_cons_succ, List.getElem_cons_zero]
            refine wpAnyH_take (i := 8) (v := ?_) rfl (by kernel_rfl) (by kernel_rfl) (by kernel_rfl) (fun _ _ _ h => h) (Or.inl ⟨by rfl, ?_⟩) (by assumption) ?_
            rotate_left
            · (intro w hSw; obtain ⟨_, hpw, htw, hxw⟩ := hSw; obtain ⟨⟨q0, q1⟩, _⟩ := hpw.cells; obtain ⟨⟨q2, q3⟩, _⟩ := hxw.cells; obtain ⟨q4, q5⟩ := htw.cells; go_simp; try with_reducible rfl)
            try simp only [Act.put, List.setIfInBounds_toArray, List.set_cons_zero, List.set_cons_succ, List.getElem_toArray, List.getElem_cons_succ, List.getElem_cons_zero]
            refine wpAnyH_take (i := 9) (v := ?_) rfl (by kernel_rfl) (by kernel_rfl) (by kernel_rfl) (fun _ _ _ h => h) (Or.inl ⟨by rfl, ?_⟩) (by assumption) ?_
            rotate_left
            · (intro w hSw; obtain ⟨_, hpw, htw, hxw⟩ := hSw; obtain ⟨⟨q0, q1⟩, _⟩ := hpw.cells; obtain ⟨⟨q2, q3⟩, _⟩ := hxw.cells; obtain ⟨q4, q5⟩ := htw.cells; go_simp; try with_reducible rfl)
            try simp only [Act.put, List.setIfInBounds_toArray, List.set_cons_zero, List.set_cons_succ, List.getElem_toArray, List.getElem_cons_succ, List.getElem_cons_zero]
            refine wpAnyH_take (i := 10) (v := ?_) rfl (by kernel_rfl) (by kernel_rfl) (by kernel_rfl) (fun _ _ _ h => h) (Or.inl ⟨by rfl, ?_⟩) (by assumption) ?_
            rotate_left
            · (intro w hSw; obtain ⟨_, hpw, htw, hxw⟩ := hSw; obtain ⟨⟨q0, q1⟩, _⟩ := hpw.cells; obtain ⟨⟨q2, q3⟩, _⟩ := hxw.cells; obtain ⟨q4, q5⟩ := htw.cells; go_simp; try with_reducible rfl)
            try simp only [Act.put, List.setIfInBounds_toArray, List.set_cons_zero, List.set_cons_succ, List.getElem_toArray, List.getElem_cons_succ, List.getElem_cons_zero]
            refine wpAnyH_take (i := 11) (v := ?_) rfl (by kernel_rfl) (by kernel_rfl) (by kernel_rfl) (fun _ _ _ h => h) (Or.inl ⟨by rfl, ?_⟩) (by assumption) ?_
            rotate_left
            · (intro w hSw; obtain ⟨_, hpw, htw, hxw⟩ := hSw; obtain ⟨⟨q0, q1⟩, _⟩ := hpw.cells; obtain ⟨⟨q2, q3⟩, _⟩ := hxw.cells; obtain ⟨q4, q5⟩ := htw.cells; go_simp; try with_reducible rfl)
            try simp only [Act.put, List.setIfInBounds_toArray, List.set_cons_zero, List.set_cons_succ, List.getElem_toArray, List.getElem_cons_succ, List.getElem_cons_zero]
            refine wpAnyH_done (by kernel_rfl) ?_ _
            dsimp only [Exit.then]
            go_wp2
            go_ret
            exact ⟨rfl, hHeld.1⟩
          | false =>
            refine wp_region_held_drew (S := STv w w.heap.size (w.heap.size + 1 + 1) g8 h1 p1 t0 t1 H P) (by kernel_rfl) ?_ (fun hHeld => ?_)
            · exact hS2
            refine wpAnyH_take (i := 0) (v := ?_) rfl (by kernel_rfl) (by kernel_rfl) (by kernel_rfl) (fun _ _ _ h => h) (Or.inl ⟨by rfl, ?_⟩) (by assumption) ?_
            rotate_left
            · (intro w hSw; obtain ⟨_, hpw, htw, hxw⟩ := hSw; obtain ⟨⟨q0, q1⟩, _⟩ := hpw.cells; obtain ⟨⟨q2, q3⟩, _⟩ := hxw.cells; obtain ⟨q4, q5⟩ := htw.cells; go_simp; try with_reducible rfl)
            try simp only [Act.put, List.setIfInBounds_toArray, List.set_cons_zero, List.set_cons_succ, List.getElem_toArray, List.getElem_cons_succ, List.getElem_cons_zero]
            refine wpAnyH_take (i := 1) (v := ?_) rfl (by kernel_rfl) (by kernel_rfl) (by kernel_rfl) (fun _ _ _ h => h) (Or.inl ⟨by rfl, ?_⟩) (by assumption) ?_
            rotate_left
            · (intro w hSw; obtain ⟨_, hpw, htw, hxw⟩ := hSw; obtain ⟨⟨q0, q1⟩, _⟩ := hpw.cells; obtain ⟨⟨q2, q3⟩, _⟩ := hxw.cells; obtain ⟨q4, q5⟩ := htw.cells; go_simp; try with_reducible rfl)
            try simp only [Act.put, List.setIfInBounds_toArray, List.set_cons_zero, List.set_cons_succ, List.getElem_toArray, List.getElem_cons_succ, List.getElem_cons_zero]
            refine wpAnyH_take (i := 2) (v := ?_) rfl (by kernel_rfl) (by kernel_rfl) (by kernel_rfl) (fun _ _ _ h => h) (Or.inl ⟨by rfl, ?_⟩) (by assumption) ?_
            rotate_left
            · (intro w hSw; obtain ⟨_, hpw, htw, hxw⟩ := hSw; obtain ⟨⟨q0, q1⟩, _⟩ := hpw.cells; obtain ⟨⟨q2, q3⟩, _⟩ := hxw.cells; obtain ⟨q4, q5⟩ := htw.cells; go_simp; try with_reducible rfl)
            try simp only [Act.put, List.setIfInBounds_toArray, List.set_cons_zero, List.set_cons_succ, List.getElem_toArray, List.getElem_cons_succ, List.getElem_cons_zero]
            refine wpAnyH_take (i := 3) (v := ?_) rfl (by kernel_rfl) (by kernel_rfl) (by kernel_rfl) (fun _ _ _ h => h) (Or.inl ⟨by rfl, ?_⟩) (by assumption) ?_
            rotate_left
            · (intro w hSw; obtain ⟨_, hpw, htw, hxw⟩ := hSw; obtain ⟨⟨q0, q1⟩, _⟩ := hpw.cells; obtain ⟨⟨q2, q3⟩, _⟩ := hxw.cells; obtain ⟨q4, q5⟩ := htw.cells; go_simp; try with_reducible rfl)
            try simp only [Act.put, List.setIfInBounds_toArray, List.set_cons_zero, List.set_cons_succ, List.getElem_toArray, List.getElem_cons_succ, List.getElem_cons_zero]
            refine wpAnyH_take (i := 4) (v := ?_) rfl (by kernel_rfl) (by kernel_rfl) (by kernel_rfl) (fun _ _ _ h => h) (Or.inl ⟨by rfl, ?_⟩) (by assumption) ?_
            rotate_left
            · (intro w hSw; obtain ⟨_, hpw, htw, hxw⟩ := hSw; obtain ⟨⟨q0, q1⟩, _⟩ := hpw.cells; obtain ⟨⟨q2, q3⟩, _⟩ := hxw.cells; obtain ⟨q4, q5⟩ := htw.cells; go_simp; try with_reducible rfl)
            try simp only [Act.put, List.setIfInBounds_toArray, List.set_cons_zero, List.set_cons_succ, List.getElem_toArray, List.getElem_cons_succ, List.getElem_cons_zero]
            refine wpAnyH_take (i := 5) (v := ?_) rfl (by kernel_rfl) (by kernel_rfl) (by kernel_rfl) (fun _ _ _ h => h) (Or.inl ⟨by rfl, ?_⟩) (by assumption) ?_
            rotate_left
            · (intro w hSw; obtain ⟨_, hpw, htw, hxw⟩ := hSw; obtain ⟨⟨q0, q1⟩, _⟩ := hpw.cells; obtain ⟨⟨q2, q3⟩, _⟩ := hxw.cells; obtain ⟨q4, q5⟩ := htw.cells; go_simp; try with_reducible rfl)
            try simp only [Act.put, List.setIfInBounds_toArray, List.set_cons_zero, List.set_cons_succ, List.getElem_toArray, List.getElem_cons_succ, List.getElem_cons_zero]
            refine wpAnyH_take (i := 6) (v := ?_) rfl (by kernel_rfl) (by kernel_rfl) (by kernel_rfl) (fun _ _ _ h => h) (Or.inl ⟨by rfl, ?_⟩) (by assumption) ?_
            rotate_left
            · (intro w hSw; obtain ⟨_, hpw, htw, hxw⟩ := hSw; obtain ⟨⟨q0, q1⟩, _⟩ := hpw.cells; obtain ⟨⟨q2, q3⟩, _⟩ := hxw.cells; obtain ⟨q4, q5⟩ := htw.cells; go_simp; try with_reducible rfl)
            try simp only [Act.put, List.setIfInBounds_toArray, List.set_cons_zero, List.set_cons_succ, List.getElem_toArray, List.getElem_cons_succ, List.getElem_cons_zero]
            refine wpAnyH_take (i := 7) (v := ?_) rfl (by kernel_rfl) (by kernel_rfl) (by kernel_rfl) (fun _ _ _ h => h) (Or.inl ⟨by rfl, ?_⟩) (by assumption) ?_
            rotate_left
            · (intro w hSw; obtain ⟨_, hpw, htw, hxw⟩ := hSw; obtain ⟨⟨q0, q1⟩, _⟩ := hpw.cells; obtain ⟨⟨q2, q3⟩, _⟩ := hxw.cells; obtain ⟨q4, q5⟩ := htw.cells; go_simp; try with_reducible rfl)
            try simp only [Act.put, List.setIfInBounds_toArray, List.set_cons_zero, List.set_cons_succ, List.getElem_toArray, List.getElem_cons_succ, List.getElem_cons_zero]
            refine wpAnyH_take (i := 8) (v := ?_) rfl (by kernel_rfl) (by kernel_rfl) (by kernel_rfl) (fun _ _ _ h => h) (Or.inl ⟨by rfl, ?_⟩) (by assumption) ?_
            rotate_left
            · (intro w hSw; obtain ⟨_, hpw, htw, hxw⟩ := hSw; obtain ⟨⟨q0, q1⟩, _⟩ := hpw.cells; obtain ⟨⟨q2, q3⟩, _⟩ := hxw.cells; obtain ⟨q4, q5⟩ := htw.cells; go_simp; try with_reducible rfl)
            try simp only [Act.put, List.setIfInBounds_toArray, List.set_cons_zero, List.set_cons_succ, List.getElem_toArray, List.getElem_cons_succ, List.getElem_cons_zero]
            refine wpAnyH_take (i := 9) (v := ?_) rfl (by kernel_rfl) (by kernel_rfl) (by kernel_rfl) (fun _ _ _ h => h) (Or.inl ⟨by rfl, ?_⟩) (by assumption) ?_
            rotate_left
            · (intro w hSw; obtain ⟨_, hpw, htw, hxw⟩ := hSw; obtain ⟨⟨q0, q1⟩, _⟩ := hpw.cells; obtain ⟨⟨q2, q3⟩, _⟩ := hxw.cells; obtain ⟨q4, q5⟩ := htw.cells; go_simp; try with_reducible rfl)
            try simp only [Act.put, List.setIfInBounds_toArray, List.set_cons_zero, List.set_cons_succ, List.getElem_toArray, List.getElem_cons_succ, List.getElem_cons_zero]
            refine wpAnyH_take (i := 10) (v := ?_) rfl (by kernel_rfl) (by kernel_rfl) (by kernel_rfl) (fun _ _ _ h => h) (Or.inl ⟨by rfl, ?_⟩) (by assumption) ?_
            rotate_left
            · (intro w hSw; obtain ⟨_, hpw, htw, hxw⟩ := hSw; obtain ⟨⟨q0, q1⟩, _⟩ := hpw.cells; obtain ⟨⟨q2, q3⟩, _⟩ := hxw.cells; obtain ⟨q4, q5⟩ := htw.cells; go_simp; try with_reducible rfl)
            try simp only [Act.put, List.setIfInBounds_toArray, List.set_cons_zero, List.set_cons_succ, List.getElem_toArray, List.getElem_cons_succ, List.getElem_cons_zero]
            refine wpAnyH_take (i := 11) (v := ?_) rfl (by kernel_rfl) (by kernel_rfl) (by kernel_rfl) (fun _ _ _ h => h) (Or.inl ⟨by rfl, ?_⟩) (by assumption) ?_
            rotate_left
            · (intro w hSw; obtain ⟨_, hpw, htw, hxw⟩ := hSw; obtain ⟨⟨q0, q1⟩, _⟩ := hpw.cells; obtain ⟨⟨q2, q3⟩, _⟩ := hxw.cells; obtain ⟨q4, q5⟩ := htw.cells; go_simp; try with_reducible rfl)
            try simp only [Act.put, List.setIfInBounds_toArray, List.set_cons_zero, List.set_cons_succ, List.getElem_toArray, List.getElem_cons_succ, List.getElem_cons_zero]
            refine wpAnyH_done (by kernel_rfl) ?_ _
            dsimp only [Exit.then]
            go_wp2
            go_ret
            exact ⟨rfl, hHeld.1⟩
        · injection he with he1 he2
          injection he2 with he2 he3
          subst he1 he2 he3
          refine wp_region_held_drew (S := STv w w.heap.size (w.heap.size + 1 + 1) g8 h1 p1 t0 t1 0 0) (by kernel_rfl) ?_ (fun hHeld => ?_)
          · exact hS2
          refine wpAnyH_take (i := 0) (v := ?_) rfl (by kernel_rfl) (by kernel_rfl) (by kernel_rfl) (fun _ _ _ h => h) (Or.inl ⟨by rfl, ?_⟩) (by assumption) ?_
          rotate_left
          · (intro w hSw; obtain ⟨_, hpw, htw, hxw⟩ := hSw; obtain ⟨⟨q0, q1⟩, _⟩ := hpw.cells; obtain ⟨⟨q2, q3⟩, _⟩ := hxw.cells; obtain ⟨q4, q5⟩ := htw.cells; go_simp; try with_reducible rfl)
          try simp only [Act.put, List.setIfInBounds_toArray, List.set_cons_zero, List.set_cons_succ, List.getElem_toArray, List.getElem_cons_succ, List.getElem_cons_zero]
          refine wpAnyH_take (i := 1) (v := ?_) rfl (by kernel_rfl) (by kernel_rfl) (by kernel_rfl) (fun _ _ _ h => h) (Or.inl ⟨by rfl, ?_⟩) (by assumption) ?_
          rotate_left
          · (intro w hSw; obtain ⟨_, hpw, htw, hxw⟩ := hSw; obtain ⟨⟨q0, q1⟩, _⟩ := hpw.cells; obtain ⟨⟨q2, q3⟩, _⟩ := hxw.cells; obtain ⟨q4, q5⟩ := htw.cells; go_simp; try with_reducible rfl)
          try simp only [Act.put, List.setIfInBounds_toArray, List.set_cons_zero, List.set_cons_succ, List.getElem_toArray, List.getElem_cons_succ, List.getElem_cons_zero]
          refine wpAnyH_take (i := 2) (v := ?_) rfl (by kernel_rfl) (by kernel_rfl) (by kernel_rfl) (fun _ _ _ h => h) (Or.inl ⟨by rfl, ?_⟩) (by assumption) ?_
          rotate_left
          · (intro w hSw; obtain ⟨_, hpw, htw, hxw⟩ := hSw; obtain ⟨⟨q0, q1⟩, _⟩ := hpw.cells; obtain ⟨⟨q2, q3⟩, _⟩ := hxw.cells; obtain ⟨q4, q5⟩ := htw.cells; go_simp; try with_reducible rfl)
          try simp only [Act.put, List.setIfInBounds_toArray, List.set_cons_zero, List.set_cons_succ, List.getElem_toArray, List.getElem_cons_succ, List.getElem_cons_zero]
          refine wpAnyH_take (i := 3) (v := undef) rfl (by kernel_rfl) (by kernel_rfl) (by kernel_rfl) (fun _ _ _ h => h) (Or.inr ⟨by rfl, rfl⟩) (by assumption) ?_
          try simp only [Act.put, List.setIfInBounds_toArray, List.set_cons_zero, List.set_cons_succ, List.getElem_toArray, List.getElem_cons_succ, List.getElem_cons_zero]
          refine wpAnyH_take (i := 4) (v := undef) rfl (by kernel_rfl) (by kernel_rfl) (by kernel_rfl) (fun _ _ _ h => h) (Or.inr ⟨by rfl, rfl⟩) (by assumption) ?_
          try simp only [Act.put, List.setIfInBounds_toArray, List.set_cons_zero, List.set_cons_succ, List.getElem_toArray, List.getElem_cons_succ, List.getElem_cons_zero]
          refine wpAnyH_take (i := 5) (v := undef) rfl (by kernel_rfl) (by kernel_rfl) (by kernel_rfl) (fun _ _ _ h => h) (Or.inr ⟨by rfl, rfl⟩) (by assumption) ?_
          try simp only [Act.put, List.setIfInBounds_toArray, List.set_cons_zero, List.set_cons_succ, List.getElem_toArray, List.getElem_cons_succ, List.getElem_cons_zero]
          refine wpAnyH_take (i := 6) (v := ?_) rfl (by kernel_rfl) (by kernel_rfl) (by kernel_rfl) (fun _ _ _ h => h) (Or.inl ⟨by rfl, ?_⟩) (by assumption) ?_
          rotate_left
          · (intro w hSw; obtain ⟨_, hpw, htw, hxw⟩ := hSw; obtain ⟨⟨q0, q1⟩, _⟩ := hpw.cells; obtain ⟨⟨q2, q3⟩, _⟩ := hxw.cells; obtain ⟨q4, q5⟩ := htw.cells; go_simp; try with_reducible rfl)
          try simp only [Act.put, List.setIfInBounds_toArray, List.set_cons_zero, List.set_cons_succ, List.getElem_toArray, List.getElem_cons_succ, List.getElem_cons_zero]
          refine wpAnyH_take (i := 7) (v := ?_) rfl (by kernel_rfl) (by kernel_rfl) (by kernel_rfl) (fun _ _ _ h => h) (Or.inl ⟨by rfl, ?_⟩) (by assumption) ?_
          rotate_left
          · (intro w hSw; obtain ⟨_, hpw, htw, hxw⟩ := hSw; obtain ⟨⟨q0, q1⟩, _⟩ := hpw.cells; obtain ⟨⟨q2, q3⟩, _⟩ := hxw.cells; obtain ⟨q4, q5⟩ := htw.cells; go_simp; try with_reducible rfl)
          try simp only [Act.put, List.setIfInBounds_toArray, List.set_cons_zero, List.set_cons_succ, List.getElem_toArray, List.getElem_cons_succ, List.getElem_cons_zero]
          refine wpAnyH_take (i := 8) (v := ?_) rfl (by kernel_rfl) (by kernel_rfl) (by kernel_rfl) (fun _ _ _ h => h) (Or.inl ⟨by rfl, ?_⟩) (by assumption) ?_
          rotate_left
          · (intro w hSw; obtain ⟨_, hpw, htw, hxw⟩ := hSw; obtain ⟨⟨q0, q1⟩, _⟩ := hpw.cells; obtain ⟨⟨q2, q3⟩, _⟩ := hxw.cells; obtain ⟨q4, q5⟩ := htw.cells; go_simp; try with_reducible rfl)
          try simp only [Act.put, List.setIfInBounds_toArray, List.set_cons_zero, List.set_cons_succ, List.getElem_toArray, List.getElem_cons_succ, List.getElem_cons_zero]
          refine wpAnyH_take (i := 9) (v := ?_) rfl (by kernel_rfl) (by kernel_rfl) (by kernel_rfl) (fun _ _ _ h => h) (Or.inl ⟨by rfl, ?_⟩) (by assumption) ?_
          rotate_left
          · (intro w hSw; obtain ⟨_, hpw, htw, hxw⟩ := hSw; obtain ⟨⟨q0, q1⟩, _⟩ := hpw.cells; obtain ⟨⟨q2, q3⟩, _⟩ := hxw.cells; obtain ⟨q4, q5⟩ := htw.cells; go_simp; try with_reducible rfl)
          try simp only [Act.put, List.setIfInBounds_toArray, List.set_cons_zero, List.set_cons_succ, List.getElem_toArray, List.getElem_cons_succ, List.getElem_cons_zero]
          refine wpAnyH_take (i := 10) (v := ?_) rfl (by kernel_rfl) (by kernel_rfl) (by kernel_rfl) (fun _ _ _ h => h) (Or.inl ⟨by rfl, ?_⟩) (by assumption) ?_
          rotate_left
          · (intro w hSw; obtain ⟨_, hpw, htw, hxw⟩ := hSw; obtain ⟨⟨q0, q1⟩, _⟩ := hpw.cells; obtain ⟨⟨q2, q3⟩, _⟩ := hxw.cells; obtain ⟨q4, q5⟩ := htw.cells; go_simp; try with_reducible rfl)
          try simp only [Act.put, List.setIfInBounds_toArray, List.set_cons_zero, List.set_cons_succ, List.getElem_toArray, List.getElem_cons_succ, List.getElem_cons_zero]
          refine wpAnyH_take (i := 11) (v := ?_) rfl (by kernel_rfl) (by kernel_rfl) (by kernel_rfl) (fun _ _ _ h => h) (Or.inl ⟨by rfl, ?_⟩) (by assumption) ?_
          rotate_left
          · (intro w hSw; obtain ⟨_, hpw, htw, hxw⟩ := hSw; obtain ⟨⟨q0, q1⟩, _⟩ := hpw.cells; obtain ⟨⟨q2, q3⟩, _⟩ := hxw.cells; obtain ⟨q4, q5⟩ := htw.cells; go_simp; try with_reducible rfl)
          try simp only [Act.put, List.setIfInBounds_toArray, List.set_cons_zero, List.set_cons_succ, List.getElem_toArray, List.getElem_cons_succ, List.getElem_cons_zero]
          refine wpAnyH_done (by kernel_rfl) ?_ _
          dsimp only [Exit.then]
          go_wp2
          go_ret
          exact ⟨rfl, hHeld.1⟩
      | false =>
        refine wp_region_held_drew (S := STu w w.heap.size (w.heap.size + 1) (w.heap.size + 1 + 1) g h1 p1 h2 p2 t0 t1 (bytesA h1 p1)) (by kernel_rfl) ?_ (fun hHeld => ?_)
        · exact hS0
        refine wpAnyH_take (i := 0) (v := ?_) rfl (by kernel_rfl) (by kernel_rfl) (by kernel_rfl) (fun _ _ _ h => h) (Or.inl ⟨by rfl, ?_⟩) (by assumption) ?_
        rotate_left
        · (intro w hSw; obtain ⟨_, hpw, hqw, htw, hyw⟩ := hSw; obtain ⟨⟨q0, q1⟩, _⟩ := hpw.cells; obtain ⟨⟨q2, q3⟩, _⟩ := hqw.cells; obtain ⟨q4, q5⟩ := htw.cells; go_simp; try with_reducible rfl)
        try simp only [Act.put, List.setIfInBounds_toArray, List.set_cons_zero, List.set_cons_succ, List.getElem_toArray, List.getElem_cons_succ, List.getElem_cons_zero]
        refine wpAnyH_take (i := 1) (v := ?_) rfl (by kernel_rfl) (by kernel_rfl) (by kernel_rfl) (fun _ _ _ h => h) (Or.inl ⟨by rfl, ?_⟩) (by assumption) ?_
        rotate_left
        · (intro w hSw; obtain ⟨_, hpw, hqw, htw, hyw⟩ := hSw; obtain ⟨⟨q0, q1⟩, _⟩ := hpw.cells; obtain ⟨⟨q2, q3⟩, _⟩ := hqw.cells; obtain ⟨q4, q5⟩ := htw.cells; go_simp; try with_reducible rfl)
        try simp only [Act.put, List.setIfInBounds_toArray, List.set_cons_zero, List.set_cons_succ, List.getElem_toArray, List.getElem_cons_succ, List.getElem_cons_zero]
        refine wpAnyH_take (i := 2) (v := ?_) rfl (by kernel_rfl) (by kernel_rfl) (by kernel_rfl) (fun _ _ _ h => h) (Or.inl ⟨by rfl, ?_⟩) (by assumption) ?_
        rotate_left
        · (intro w hSw; obtain ⟨_, hpw, hqw, htw, hyw⟩ := hSw; obtain ⟨⟨q0, q1⟩, _⟩ := hpw.cells; obtain ⟨⟨q2, q3⟩, _⟩ := hqw.cells; obtain ⟨q4, q5⟩ := htw.cells; go_simp; try with_reducible rfl)
        try simp only [Act.put, List.setIfInBounds_toArray, List.set_cons_zero, List.set_cons_succ, List.getElem_toArray, List.getElem_cons_succ, List.getElem_cons_zero]
        refine wpAnyH_take (i := 3) (v := ?_) rfl (by kernel_rfl) (by kernel_rfl) (by kernel_rfl) (fun _ _ _ h => h) (Or.inl ⟨by rfl, ?_⟩) (by assumption) ?_
        rotate_left
        · (intro w hSw; obtain ⟨_, hpw, hqw, htw, hyw⟩ := hSw; obtain ⟨⟨q0, q1⟩, _⟩ := hpw.cells; obtain ⟨⟨q2, q3⟩, _⟩ := hqw.cells; obtain ⟨q4, q5⟩ := htw.cells; go_simp; try with_reducible rfl)
        try simp only [Act.put, List.setIfInBounds_toArray, List.set_cons_zero, List.set_cons_succ, List.getElem_toArray, List.getElem_cons_succ, List.getElem_cons_zero]
        refine wpAnyH_take (i := 4) (v := ?_) rfl (by kernel_rfl) (by kernel_rfl) (by kernel_rfl) (fun _ _ _ h => h) (Or.inl ⟨by rfl, ?_⟩) (by assumption) ?_
        rotate_left
        · (intro w hSw; obtain ⟨_, hpw, hqw, htw, hyw⟩ := hSw; obtain ⟨⟨q0, q1⟩, _⟩ := hpw.cells; obtain ⟨⟨q2, q3⟩, _⟩ := hqw.cells; obtain ⟨q4, q5⟩ := htw.cells; go_simp; try with_reducible rfl)
        try simp only [Act.put, List.setIfInBounds_toArray, List.set_cons_zero, List.set_cons_succ, List.getElem_toArray, List.getElem_cons_succ, List.getElem_cons_zero]
        refine wpAnyH_take (i := 5) (v := ?_) rfl (by kernel_rfl) (by kernel_rfl) (by kernel_rfl) (fun _ _ _ h => h) (Or.inl ⟨by rfl, ?_⟩) (by assumption) ?_
        rotate_left
        · (intro w hSw; obtain ⟨_, hpw, hqw, htw, hyw⟩ := hSw; obtain ⟨⟨q0, q1⟩, _⟩ := hpw.cells; obtain ⟨⟨q2, q3⟩, _⟩ := hqw.cells; obtain ⟨q4, q5⟩ := htw.cells; go_simp; try with_reducible rfl)
        try simp only [Act.put, List.setIfInBounds_toArray, List.set_cons_zero, List.set_cons_succ, List.getElem_toArray, List.getElem_cons_succ, List.getElem_cons_zero]
        refine wpAnyH_take (i := 8) (v := ?_) rfl (by kernel_rfl) (by kernel_rfl) (by kernel_rfl) (fun _ _ _ h => h) (Or.inl ⟨by rfl, ?_⟩) (by assumption) ?_
        rotate_left
        · (intro w hSw; obtain ⟨_, hpw, hqw, htw, hyw⟩ := hSw; obtain ⟨⟨q0, q1⟩, _⟩ := hpw.cells; obtain ⟨⟨q2, q3⟩, _⟩ := hqw.cells; obtain ⟨q4, q5⟩ := htw.cells; go_simp; try with_reducible rfl)
        try simp only [Act.put, List.setIfInBounds_toArray, List.set_cons_zero, List.set_cons_succ, List.getElem_toArray, List.getElem_cons_succ, List.getElem_cons_zero]
        refine wpAnyH_take (i := 9) (v := ?_) rfl (by kernel_rfl) (by kernel_rfl) (by kernel_rfl) (fun _ _ _ h => h) (Or.inl ⟨by rfl, ?_⟩) (by assumption) ?_
        rotate_left
        · (intro w hSw; obtain ⟨_, hpw, hqw, htw, hyw⟩ := hSw; obtain ⟨⟨q0, q1⟩, _⟩ := hpw.cells; obtain ⟨⟨q2, q3⟩, _⟩ := hqw.cells; obtain ⟨q4, q5⟩ := htw.cells; go_simp; try with_reducible rfl)
        try simp only [Act.put, List.setIfInBounds_toArray, List.set_cons_zero, List.set_cons_succ, List.getElem_toArray, List.getElem_cons_succ, List.getElem_cons_zero]
        refine wpAnyH_take (i := 10) (v := ?_) rfl (by kernel_rfl) (by kernel_rfl) (by kernel_rfl) (fun _ _ _ h => h) (Or.inl ⟨by rfl, ?_⟩) (by assumption) ?_
        rotate_left
        · (intro w hSw; obtain ⟨_, hpw, hqw, htw, hyw⟩ := hSw; obtain ⟨⟨q0, q1⟩, _⟩ := hpw.cells; obtain ⟨⟨q2, q3⟩, _⟩ := hqw.cells; obtain ⟨q4, q5⟩ := htw.cells; go_simp; try with_reducible rfl)
        try simp only [Act.put, List.setIfInBounds_toArray, List.set_cons_zero, List.set_cons_succ, List.getElem_toArray, List.getElem_cons_succ, List.getElem_cons_zero]
        refine wpAnyH_ready (rs := [6]) (by kernel_rfl) (by simp) ?_
        refine AllReadyH.cons rfl (fun K hK => ?_) AllReadyH.nil
        go_simp
        go_at_call 18; (with_reducible refine (KB.out _).mono ?_); rintro e wn2 ⟨gb, rfl, _, hgb, hbn⟩; have hSN := hHeld.below hbn; have HGB := Lib.hid hgb; clear hbn hgb
        refine hK.out _ _ ?_ (fun hHeld => ?_)
        · exact hSN
        clear hK K
        try simp only [Act.put, List.setIfInBounds_toArray, List.set_cons_zero, List.set_cons_succ, List.getElem_toArray, List.getElem_cons_succ, List.getElem_cons_zero]
        refine wpAnyH_ready (rs := [7]) (by kernel_rfl) (by simp) ?_
        refine AllReadyH.cons rfl (fun K hK => ?_) AllReadyH.nil
        go_simp
        go_at_call 19; refine (same_six hHeld.by HGB.out rfl rfl).mono ?_; rintro e wn3 ⟨he, hbn⟩; rw [HSP.out] at he; subst he; have hSN := hHeld.below hbn; clear hbn
        refine hK.out _ _ ?_ (fun hHeld => ?_)
        · exact hSN
        clear hK K
        try simp only [Act.put, List.setIfInBounds_toArray, List.set_cons_zero, List.set_cons_succ, List.getElem_toArray, List.getElem_cons_succ, List.getElem_cons_zero]
        refine wpAnyH_take (i := 11) (v := ?_) rfl (by kernel_rfl) (by kernel_rfl) (by kernel_rfl) (fun _ _ _ h => h) (Or.inl ⟨by rfl, ?_⟩) (by assumption) ?_
        rotate_left
        · (intro w hSw; obtain ⟨_, hpw, hqw, htw, hyw⟩ := hSw; obtain ⟨⟨q0, q1⟩, _⟩ := hpw.cells; obtain ⟨⟨q2, q3⟩, _⟩ := hqw.cells; obtain ⟨q4, q5⟩ := htw.cells; go_simp; try with_reducible rfl)
        try simp only [Act.put, List.setIfInBounds_toArray, List.set_cons_zero, List.set_cons_succ, List.getElem_toArray, List.getElem_cons_succ, List.getElem_cons_zero]
        refine wpAnyH_take (i := 12) (v := ?_) rfl (by kernel_rfl) (by kernel_rfl) (by kernel_rfl) (fun _ _ _ h => h) (Or.inl ⟨by rfl, ?_⟩) (by assumption) ?_
        rotate_left
        · (intro w hSw; obtain ⟨_, hpw, hqw, htw, hyw⟩ := hSw; obtain ⟨⟨q0, q1⟩, _⟩ := hpw.cells; obtain ⟨⟨q2, q3⟩, _⟩ := hqw.cells; obtain ⟨q4, q5⟩ := htw.cells; go_simp; try with_reducible rfl)
        try simp only [Act.put, List.setIfInBounds_toArray, List.set_cons_zero, List.set_cons_succ, List.getElem_toArray, List.getElem_cons_succ, List.getElem_cons_zero]
        refine wpAnyH_done (by kernel_rfl) ?_ _
        dsimp only [Exit.then]
        go_upto_region 8 with fail
        have hx9 := hHeld
        obtain ⟨U, hU⟩ : ∃ U, wn3 = U := ⟨_, rfl⟩
        rw [hU] at hx9 ⊢
        obtain ⟨n, hn, hn6⟩ : ∃ n : Nat, t0 % 6 = (n : Int) ∧ n < 6 := ⟨(t0 % 6).toNat, by omega, by omega⟩
        have HN : Hid (n < (bytesA h1 p1).length) := Lib.hid hn6
        obtain ⟨xn, hxn⟩ : ∃ x, (bytesA h1 p1).getD n 0 = x := ⟨_, rfl⟩
        have hv0 := HV.out.1
        have r0 : IntKind.i64.wrap t0 = t0 := by rw [IntKind.wrap_i64]; omega
        have r1 : wrap64 t0 = t0 := by unfold wrap64; omega
        have r2 : Int.tmod t0 6 = (n : Int) := by rw [Int.tmod_eq_emod_of_nonneg (by omega), hn]
        have r3 : (n : Int) < 6 := by omega
        have r4 : wrap64 (n : Int) = n := by unfold wrap64; omega
        obtain ⟨z, hz⟩ : ∃ z, Go.bits .xor .u8 xn t1 = z := ⟨_, rfl⟩
        have hpl := turned_plain (z := z) HU.out.1 HM1.out hn6 HV.out.2 (by rw [hxn]; exact hz)
        have HPL := Lib.hid hpl
        have HXN := Lib.hid hxn
        have hS1 : STu w w.heap.size (w.heap.size + 1) (w.heap.size + 1 + 1) g h1 p1 h2 p2 t0 t1 (bytesA h1 p1) U.drew := STu.below hx9 (drew_below U)
        have y6 := hS1.by.cell n HN.out
        rw [HXN.out] at y6
        have f6 : U.drew.frozen? ⟨g, n, none⟩ = false := frozen_cellsN hS1.by n
        clear hn hn6 hxn hv0 hpl hU hx9 hS0 HG KB HSP he0
        refine wp_region_last_drew (ds := [16]) (S := STu w w.heap.size (w.heap.size + 1) (w.heap.size + 1 + 1) g h1 p1 h2 p2 t0 t1 (bytesA h1 p1)) (by kernel_rfl) ?_ (fun hHeld => ?_)
        · exact hS1
        refine wpAnyLast_take (i := 0) (v := ?_) rfl (by kernel_rfl) (by kernel_rfl) (by kernel_rfl) (by kernel_rfl) (by kernel_rfl) (fun _ _ _ h => h) (Or.inl ⟨by rfl, ?_⟩) (by assumption) ?_
        rotate_left
        · (intro w hSw; obtain ⟨_, hpw, hqw, htw, hyw⟩ := hSw; obtain ⟨⟨q0, q1⟩, _⟩ := hpw.cells; obtain ⟨⟨q2, q3⟩, _⟩ := hqw.cells; obtain ⟨q4, q5⟩ := htw.cells; have q6 := hyw.cell n HN.out; rw [HXN.out] at q6; go_simp; try with_reducible rfl)
        try simp only [Act.put, List.setIfInBounds_toArray, List.set_cons_zero, List.set_cons_succ, List.getElem_toArray, List.getElem_cons_succ, List.getElem_cons_zero]
        refine wpAnyLast_take (i := 1) (v := ?_) rfl (by kernel_rfl) (by kernel_rfl) (by kernel_rfl) (by kernel_rfl) (by kernel_rfl) (fun _ _ _ h => h) (Or.inl ⟨by rfl, ?_⟩) (by assumption) ?_
        rotate_left
        · (intro w hSw; obtain ⟨_, hpw, hqw, htw, hyw⟩ := hSw; obtain ⟨⟨q0, q1⟩, _⟩ := hpw.cells; obtain ⟨⟨q2, q3⟩, _⟩ := hqw.cells; obtain ⟨q4, q5⟩ := htw.cells; have q6 := hyw.cell n HN.out; rw [HXN.out] at q6; go_simp; try with_reducible rfl)
        try simp only [Act.put, List.setIfInBounds_toArray, List.set_cons_zero, List.set_cons_succ, List.getElem_toArray, List.getElem_cons_succ, List.getElem_cons_zero]
        refine wpAnyLast_take (i := 2) (v := ?_) rfl (by kernel_rfl) (by kernel_rfl) (by kernel_rfl) (by kernel_rfl) (by kernel_rfl) (fun _ _ _ h => h) (Or.inl ⟨by rfl, ?_⟩) (by assumption) ?_
        rotate_left
        · (intro w hSw; obtain ⟨_, hpw, hqw, htw, hyw⟩ := hSw; obtain ⟨⟨q0, q1⟩, _⟩ := hpw.cells; obtain ⟨⟨q2, q3⟩, _⟩ := hqw.cells; obtain ⟨q4, q5⟩ := htw.cells; have q6 := hyw.cell n HN.out; rw [HXN.out] at q6; go_simp; try with_reducible rfl)
        try simp only [Act.put, List.setIfInBounds_toArray, List.set_cons_zero, List.set_cons_succ, List.getElem_toArray, List.getElem_cons_succ, List.getElem_cons_zero]
        refine wpAnyLast_take (i := 3) (v := ?_) rfl (by kernel_rfl) (by kernel_rfl) (by kernel_rfl) (by kernel_rfl) (by kernel_rfl) (fun _ _ _ h => h) (Or.inl ⟨by rfl, ?_⟩) (by assumption) ?_
        rotate_left
        · (intro w hSw; obtain ⟨_, hpw, hqw, htw, hyw⟩ := hSw; obtain ⟨⟨q0, q1⟩, _⟩ := hpw.cells; obtain ⟨⟨q2, q3⟩, _⟩ := hqw.cells; obtain ⟨q4, q5⟩ := htw.cells; have q6 := hyw.cell n HN.out; rw [HXN.out] at q6; go_simp; try with_reducible rfl)
        try simp only [Act.put, List.setIfInBounds_toArray, List.set_cons_zero, List.set_cons_succ, List.getElem_toArray, List.getElem_cons_succ, List.getElem_cons_zero]
        refine wpAnyLast_take (i := 4) (v := ?_) rfl (by kernel_rfl) (by kernel_rfl) (by kernel_rfl) (by kernel_rfl) (by kernel_rfl) (fun _ _ _ h => h) (Or.inl ⟨by rfl, ?_⟩) (by assumption) ?_
        rotate_left
        · (intro w hSw; obtain ⟨_, hpw, hqw, htw, hyw⟩ := hSw; obtain ⟨⟨q0, q1⟩, _⟩ := hpw.cells; obtain ⟨⟨q2, q3⟩, _⟩ := hqw.cells; obtain ⟨q4, q5⟩ := htw.cells; have q6 := hyw.cell n HN.out; rw [HXN.out] at q6; go_simp; try with_reducible rfl)
        try simp only [Act.put, List.setIfInBounds_toArray, List.set_cons_zero, List.set_cons_succ, List.getElem_toArray, List.getElem_cons_succ, List.getElem_cons_zero]
        refine wpAnyLast_take (i := 5) (v := ?_) rfl (by kernel_rfl) (by kernel_rfl) (by kernel_rfl) (by kernel_rfl) (by kernel_rfl) (fun _ _ _ h => h) (Or.inl ⟨by rfl, ?_⟩) (by assumption) ?_
        rotate_left
        · (intro w hSw; obtain ⟨_, hpw, hqw, htw, hyw⟩ := hSw; obtain ⟨⟨q0, q1⟩, _⟩ := hpw.cells; obtain ⟨⟨q2, q3⟩, _⟩ := hqw.cells; obtain ⟨q4, q5⟩ := htw.cells; have q6 := hyw.cell n HN.out; rw [HXN.out] at q6; go_simp; try with_reducible rfl)
        try simp only [Act.put, List.setIfInBounds_toArray, List.set_cons_zero, List.set_cons_succ, List.getElem_toArray, List.getElem_cons_succ, List.getElem_cons_zero]
        refine wpAnyLast_take (i := 6) (v := ?_) rfl (by kernel_rfl) (by kernel_rfl) (by kernel_rfl) (by kernel_rfl) (by kernel_rfl) (fun _ _ _ h => h) (Or.inl ⟨by rfl, ?_⟩) (by assumption) ?_
        rotate_left
        · (intro w hSw; obtain ⟨_, hpw, hqw, htw, hyw⟩ := hSw; obtain ⟨⟨q0, q1⟩, _⟩ := hpw.cells; obtain ⟨⟨q2, q3⟩, _⟩ := hqw.cells; obtain ⟨q4, q5⟩ := htw.cells; have q6 := hyw.cell n HN.out; rw [HXN.out] at q6; go_simp; try with_reducible rfl)
        try simp only [Act.put, List.setIfInBounds_toArray, List.set_cons_zero, List.set_cons_succ, List.getElem_toArray, List.getElem_cons_succ, List.getElem_cons_zero]
        refine wpAnyLast_take (i := 7) (v := ?_) rfl (by kernel_rfl) (by kernel_rfl) (by kernel_rfl) (by kernel_rfl) (by kernel_rfl) (fun _ _ _ h => h) (Or.inl ⟨by rfl, ?_⟩) (by assumption) ?_
        rotate_left
        · (intro w hSw; obtain ⟨_, hpw, hqw, htw, hyw⟩ := hSw; obtain ⟨⟨q0, q1⟩, _⟩ := hpw.cells; obtain ⟨⟨q2, q3⟩, _⟩ := hqw.cells; obtain ⟨q4, q5⟩ := htw.cells; have q6 := hyw.cell n HN.out; rw [HXN.out] at q6; go_simp; try with_reducible rfl)
        try simp only [Act.put, List.setIfInBounds_toArray, List.set_cons_zero, List.set_cons_succ, List.getElem_toArray, List.getElem_cons_succ, List.getElem_cons_zero]
        refine wpAnyLast_take (i := 8) (v := ?_) rfl (by kernel_rfl) (by kernel_rfl) (by kernel_rfl) (by kernel_rfl) (by kernel_rfl) (fun _ _ _ h => h) (Or.inl ⟨by rfl, ?_⟩) (by assumption) ?_
        rotate_left
        · (intro w hSw; obtain ⟨_, hpw, hqw, htw, hyw⟩ := hSw; obtain ⟨⟨q0, q1⟩, _⟩ := hpw.cells; obtain ⟨⟨q2, q3⟩, _⟩ := hqw.cells; obtain ⟨q4, q5⟩ := htw.cells; have q6 := hyw.cell n HN.out; rw [HXN.out] at q6; go_simp; try with_reducible rfl)
        try simp only [Act.put, List.setIfInBounds_toArray, List.set_cons_zero, List.set_cons_succ, List.getElem_toArray, List.getElem_cons_succ, List.getElem_cons_zero]
        refine wpAnyLast_take (i := 9) (v := ?_) rfl (by kernel_rfl) (by kernel_rfl) (by kernel_rfl) (by kernel_rfl) (by kernel_rfl) (fun _ _ _ h => h) (Or.inl ⟨by rfl, ?_⟩) (by assumption) ?_
        rotate_left
        · (intro w hSw; obtain ⟨_, hpw, hqw, htw, hyw⟩ := hSw; obtain ⟨⟨q0, q1⟩, _⟩ := hpw.cells; obtain ⟨⟨q2, q3⟩, _⟩ := hqw.cells; obtain ⟨q4, q5⟩ := htw.cells; have q6 := hyw.cell n HN.out; rw [HXN.out] at q6; go_simp; try with_reducible rfl)
        try simp only [Act.put, List.setIfInBounds_toArray, List.set_cons_zero, List.set_cons_succ, List.getElem_toArray, List.getElem_cons_succ, List.getElem_cons_zero]
        refine wpAnyLast_take (i := 10) (v := ?_) rfl (by kernel_rfl) (by kernel_rfl) (by kernel_rfl) (by kernel_rfl) (by kernel_rfl) (fun _ _ _ h => h) (Or.inl ⟨by rfl, ?_⟩) (by assumption) ?_
        rotate_left
        · (intro w hSw; obtain ⟨_, hpw, hqw, htw, hyw⟩ := hSw; obtain ⟨⟨q0, q1⟩, _⟩ := hpw.cells; obtain ⟨⟨q2, q3⟩, _⟩ := hqw.cells; obtain ⟨q4, q5⟩ := htw.cells; have q6 := hyw.cell n HN.out; rw [HXN.out] at q6; go_simp; try with_reducible rfl)
        try simp only [Act.put, List.setIfInBounds_toArray, List.set_cons_zero, List.set_cons_succ, List.getElem_toArray, List.getElem_cons_succ, List.getElem_cons_zero]
        refine wpAnyLast_take (i := 11) (v := ?_) rfl (by kernel_rfl) (by kernel_rfl) (by kernel_rfl) (by kernel_rfl) (by kernel_rfl) (fun _ _ _ h => h) (Or.inl ⟨by rfl, ?_⟩) (by assumption) ?_
        rotate_left
        · (intro w hSw; obtain ⟨_, hpw, hqw, htw, hyw⟩ := hSw; obtain ⟨⟨q0, q1⟩, _⟩ := hpw.cells; obtain ⟨⟨q2, q3⟩, _⟩ := hqw.cells; obtain ⟨q4, q5⟩ := htw.cells; have q6 := hyw.cell n HN.out; rw [HXN.out] at q6; go_simp; try with_reducible rfl)
        try simp only [Act.put, List.setIfInBounds_toArray, List.set_cons_zero, List.set_cons_succ, List.getElem_toArray, List.getElem_cons_succ, List.getElem_cons_zero]
        refine wpAnyLast_take (i := 12) (v := ?_) rfl (by kernel_rfl) (by kernel_rfl) (by kernel_rfl) (by kernel_rfl) (by kernel_rfl) (fun _ _ _ h => h) (Or.inl ⟨by rfl, ?_⟩) (by assumption) ?_
        rotate_left
        · (intro w hSw; obtain ⟨_, hpw, hqw, htw, hyw⟩ := hSw; obtain ⟨⟨q0, q1⟩, _⟩ := hpw.cells; obtain ⟨⟨q2, q3⟩, _⟩ := hqw.cells; obtain ⟨q4, q5⟩ := htw.cells; have q6 := hyw.cell n HN.out; rw [HXN.out] at q6; go_simp; try with_reducible rfl)
        try simp only [Act.put, List.setIfInBounds_toArray, List.set_cons_zero, List.set_cons_succ, List.getElem_toArray, List.getElem_cons_succ, List.getElem_cons_zero]
        refine wpAnyLast_take (i := 13) (v := ?_) rfl (by kernel_rfl) (by kernel_rfl) (by kernel_rfl) (by kernel_rfl) (by kernel_rfl) (fun _ _ _ h => h) (Or.inl ⟨by rfl, ?_⟩) (by assumption) ?_
        rotate_left
        · (intro w hSw; obtain ⟨_, hpw, hqw, htw, hyw⟩ := hSw; obtain ⟨⟨q0, q1⟩, _⟩ := hpw.cells; obtain ⟨⟨q2, q3⟩, _⟩ := hqw.cells; obtain ⟨q4, q5⟩ := htw.cells; have q6 := hyw.cell n HN.out; rw [HXN.out] at q6; go_simp; try with_reducible rfl)
        try simp only [Act.put, List.setIfInBounds_toArray, List.set_cons_zero, List.set_cons_succ, List.getElem_toArray, List.getElem_cons_succ, List.getElem_cons_zero]
        refine wpAnyLast_take (i := 14) (v := ?_) rfl (by kernel_rfl) (by kernel_rfl) (by kernel_rfl) (by kernel_rfl) (by kernel_rfl) (fun _ _ _ h => h) (Or.inl ⟨by rfl, ?_⟩) (by assumption) ?_
        rotate_left
        · (intro w hSw; obtain ⟨_, hpw, hqw, htw, hyw⟩ := hSw; obtain ⟨⟨q0, q1⟩, _⟩ := hpw.cells; obtain ⟨⟨q2, q3⟩, _⟩ := hqw.cells; obtain ⟨q4, q5⟩ := htw.cells; have q6 := hyw.cell n HN.out; rw [HXN.out] at q6; go_simp; try with_reducible rfl)
        try simp only [Act.put, List.setIfInBounds_toArray, List.set_cons_zero, List.set_cons_succ, List.getElem_toArray, List.getElem_cons_succ, List.getElem_cons_zero]
        refine wpAnyLast_take (i := 15) (v := ?_) rfl (by kernel_rfl) (by kernel_rfl) (by kernel_rfl) (by kernel_rfl) (by kernel_rfl) (fun _ _ _ h => h) (Or.inl ⟨by rfl, ?_⟩) (by assumption) ?_
        rotate_left
        · (intro w hSw; obtain ⟨_, hpw, hqw, htw, hyw⟩ := hSw; obtain ⟨⟨q0, q1⟩, _⟩ := hpw.cells; obtain ⟨⟨q2, q3⟩, _⟩ := hqw.cells; obtain ⟨q4, q5⟩ := htw.cells; have q6 := hyw.cell n HN.out; rw [HXN.out] at q6; go_simp; try with_reducible rfl)
        try simp only [Act.put, List.setIfInBounds_toArray, List.set_cons_zero, List.set_cons_succ, List.getElem_toArray, List.getElem_cons_succ, List.getElem_cons_zero]
        refine wpAnyLast_ready (rs := [16]) (by kernel_rfl) (by simp) ?_
        refine AllReadyL.cons_last rfl (by simp) (fun K hK => ?_) AllReadyL.nil
        go_simp
        skip
        refine hK.out _ _ ?_
        clear hK K
        try simp only [Act.put, List.setIfInBounds_toArray, List.set_cons_zero, List.set_cons_succ, List.getElem_toArray, List.getElem_cons_succ, List.getElem_cons_zero]
        refine wpAnyLast_done (by kernel_rfl) ?_ _
        dsimp only [Exit.then]
        have hb8 : Below w.heap.size w (U.setCell ⟨g, n, none⟩ (.int .u8 z)).drew := hS1.1.setCell (p := ⟨g, n, none⟩) (by have := HGE.out; have := HB3.out.size; show w.heap.size ≤ g; omega) _
        have hne : ∀ k, k < w3.heap.size → k ≠ g := fun k hk e => by have := HGE.out; omega
        have hlt : w.heap.size + 1 + 1 < w3.heap.size := (Array.getElem?_eq_some_iff.1 HD3.out).1
        have ha8 : AdAt (U.setCell ⟨g, n, none⟩ (.int .u8 z)).drew w.heap.size h1 p1 := hS1.2.1.other (hne _ (by omega)) _
        have hd8 : TnAt (U.setCell ⟨g, n, none⟩ (.int .u8 z)).drew (w.heap.size + 1 + 1) t0 t1 := hS1.2.2.2.1.other (hne _ hlt) _
        have hy8 : ByAt (U.setCell ⟨g, n, none⟩ (.int .u8 z)).drew g ((bytesA h1 p1).set n z) := hS1.2.2.2.2.set n z
        obtain ⟨U8, hU8⟩ : ∃ V, (U.setCell ⟨g, n, none⟩ (.int .u8 z)).drew = V := ⟨_, rfl⟩
        rw [hU8] at hb8 ha8 hd8 hy8 ⊢
        have HB8 := Lib.hid hb8
        have HA8 := Lib.hid ha8
        have HD8 := Lib.hid hd8
        have KF := Lib.hid (fb_calls U8 (some ⟨g, 0, none⟩) 6 6 ((bytesA h1 p1).set n z) (by rw [List.length_set]; rfl) (row8_block hy8) (Nat.le_refl _) HPL.out.1)
        have hcs := HPL.out.2
        clear hb8 ha8 hd8 hy8 hU8 hne hlt hS1 r0 r1 r2 r3 r4 y6 f6 HPL HXN hz
        obtain ⟨H, P, C, hfb⟩ : ∃ H P C, fbV ((bytesA h1 p1).set n z) = (H, P, C) := ⟨_, _, _, rfl⟩
        rw [hfb] at KF hcs
        dsimp only at KF
        go_upto_region 10 with (go_at_call 20; (with_reducible refine KF.out.mono ?_); rintro e w9 ⟨rfl, hb9⟩; have HB9 := Lib.hid (HB8.out.trans (hb9.mono HB8.out.size)); have HA9 := Lib.hid (HA8.out.below hb9); have HD9 := Lib.hid (HD8.out.below hb9); clear hb9)
        obtain ⟨W9, hW9⟩ : ∃ V, w9.alloc (.cells #[.int .u32 H, .int .i64 P] 24) = V := ⟨_, rfl⟩
        have hb9 : Below w9.heap.size w9 W9 := by rw [← hW9]; exact (Below.refl _ _).alloc (Nat.le_refl _) _
        have hp9 : AdAt W9 w9.heap.size H P := by rw [← hW9]; exact ad_new _ _ _
        rw [hW9]
        clear hW9
        obtain ⟨g8, hg8⟩ : ∃ g, w9.heap.size = g := ⟨_, rfl⟩
        rw [hg8] at hp9 ⊢
        have hS2 : STv w w.heap.size (w.heap.size + 1 + 1) g8 h1 p1 t0 t1 H P W9.drew := ⟨(HB9.out.trans (hb9.mono HB9.out.size)).trans ((drew_below W9).mono (HB9.out.trans (hb9.mono HB9.out.size)).size), (HA9.out.below hb9).below (drew_below W9), (HD9.out.below hb9).below (drew_below W9), hp9.below (drew_below W9)⟩
        clear hb9 hp9 hg8 hfb KF
        rcases hcs with ⟨H', P', he, hq⟩ | ⟨he, hq⟩
        · injection he with he1 he2
          injection he2 with he2 he3
          subst he1 he2 he3
          obtain ⟨b, hb⟩ : ∃ b, eqA H P h1 p1 = b := ⟨_, rfl⟩
          rw [hb] at hq
          replace hq := hq.symm
          cases b with
          | true =>
            refine wp_region_held_drew (S := STv w w.heap.size (w.heap.size + 1 + 1) g8 h1 p1 t0 t1 H P) (by kernel_rfl) ?_ (fun hHeld => ?_)
            · exact hS2
            refine wpAnyH_take (i := 0) (v := ?_) rfl (by kernel_rfl) (by kernel_rfl) (by kernel_rfl) (fun _ _ _ h => h) (Or.inl ⟨by rfl, ?_⟩) (by assumption) ?_
            rotate_left
            · (intro w hSw; obtain ⟨_, hpw, htw, hxw⟩ := hSw; obtain ⟨⟨q0, q1⟩, _⟩ := hpw.cells; obtain ⟨⟨q2, q3⟩, _⟩ := hxw.cells; obtain ⟨q4, q5⟩ := htw.cells; go_simp; try with_reducible rfl)
            try simp only [Act.put, List.setIfInBounds_toArray, List.set_cons_zero, List.set_cons_succ, List.getElem_toArray, List.getElem_cons_succ, List.getElem_cons_zero]
            refine wpAnyH_take (i := 1) (v := ?_) rfl (by kernel_rfl) (by kernel_rfl) (by kernel_rfl) (fun _ _ _ h => h) (Or.inl ⟨by rfl, ?_⟩) (by assumption) ?_
            rotate_left
            · (intro w hSw; obtain ⟨_, hpw, htw, hxw⟩ := hSw; obtain ⟨⟨q0, q1⟩, _⟩ := hpw.cells; obtain ⟨⟨q2, q3⟩, _⟩ := hxw.cells; obtain ⟨q4, q5⟩ := htw.cells; go_simp; try with_reducible rfl)
            try simp only [Act.put, List.setIfInBounds_toArray, List.set_cons_zero, List.set_cons_succ, List.getElem_toArray, List.getElem_cons_succ, List.getElem_cons_zero]
            refine wpAnyH_take (i := 2) (v := ?_) rfl (by kernel_rfl) (by kernel_rfl) (by kernel_rfl) (fun _ _ _ h => h) (Or.inl ⟨by rfl, ?_⟩) (by assumption) ?_
            rotate_left
            · (intro w hSw; obtain ⟨_, hpw, htw, hxw⟩ := hSw; obtain ⟨⟨q0, q1⟩, _⟩ := hpw.cells; obtain ⟨⟨q2, q3⟩, _⟩ := hxw.cells; obtain ⟨q4, q5⟩ := htw.cells; go_simp; try with_reducible rfl)
            try simp only [Act.put, List.setIfInBounds_toArray, List.set_cons_zero, List.set_cons_succ, List.getElem_toArray, List.getElem_cons_succ, List.getElem_cons_zero]
            refine wpAnyH_take (i := 3) (v := ?_) rfl (by kernel_rfl) (by kernel_rfl) (by kernel_rfl) (fun _ _ _ h => h) (Or.inl ⟨by rfl, ?_⟩) (by assumption) ?_
            rotate_left
            · (intro w hSw; obtain ⟨_, hpw, htw, hxw⟩ := hSw; obtain ⟨⟨q0, q1⟩, _⟩ := hpw.cells; obtain ⟨⟨q2, q3⟩, _⟩ := hxw.cells; obtain ⟨q4, q5⟩ := htw.cells; go_simp; try with_reducible rfl)
            try simp only [Act.put, List.setIfInBounds_toArray, List.set_cons_zero, List.set_cons_succ, List.getElem_toArray, List.getElem_cons_succ, List.getElem_cons_zero]
            refine wpAnyH_take (i := 4) (v := ?_) rfl (by kernel_rfl) (by kernel_rfl) (by kernel_rfl) (fun _ _ _ h => h) (Or.inl ⟨by rfl, ?_⟩) (by assumption) ?_
            rotate_left
            · (intro w hSw; obtain ⟨_, hpw, htw, hxw⟩ := hSw; obtain ⟨⟨q0, q1⟩, _⟩ := hpw.cells; obtain ⟨⟨q2, q3⟩, _⟩ := hxw.cells; obtain ⟨q4, q5⟩ := htw.cells; go_simp; try with_reducible rfl)
            try simp only [Act.put, List.setIfInBounds_toArray, List.set_cons_zero, List.set_cons_succ, List.getElem_toArray, List.getElem_cons_succ, List.getElem_cons_zero]
            refine wpAnyH_take (i := 5) (v := ?_) rfl (by kernel_rfl) (by kernel_rfl) (by kernel_rfl) (fun _ _ _ h => h) (Or.inl ⟨by rfl, ?_⟩) (by assumption) ?_
            rotate_left
            · (intro w hSw; obtain ⟨_, hpw, htw, hxw⟩ := hSw; obtain ⟨⟨q0, q1⟩, _⟩ := hpw.cells; obtain ⟨⟨q2, q3⟩, _⟩ := hxw.cells; obtain ⟨q4, q5⟩ := htw.cells; go_simp; try with_reducible rfl)
            try simp only [Act.put, List.setIfInBounds_toArray, List.set_cons_zero, List.set_cons_succ, List.getElem_toArray, List.getElem_cons_succ, List.getElem_cons_zero]
            refine wpAnyH_take (i := 6) (v := ?_) rfl (by kernel_rfl) (by kernel_rfl) (by kernel_rfl) (fun _ _ _ h => h) (Or.inl ⟨by rfl, ?_⟩) (by assumption) ?_
            rotate_left
            · (intro w hSw; obtain ⟨_, hpw, htw, hxw⟩ := hSw; obtain ⟨⟨q0, q1⟩, _⟩ := hpw.cells; obtain ⟨⟨q2, q3⟩, _⟩ := hxw.cells; obtain ⟨q4, q5⟩ := htw.cells; go_simp; try with_reducible rfl)
            try simp only [Act.put, List.setIfInBounds_toArray, List.set_cons_zero, List.set_cons_succ, List.getElem_toArray, List.getElem_cons_succ, List.getElem_cons_zero]
            refine wpAnyH_take (i := 7) (v := ?_) rfl (by kernel_rfl) (by kernel_rfl) (by kernel_rfl) (fun _ _ _ h => h) (Or.inl ⟨by rfl, ?_⟩) (by assumption) ?_
            rotate_left
            · (intro w hSw; obtain ⟨_, hpw, htw, hxw⟩ := hSw; obtain ⟨⟨q0, q1⟩, _⟩ := hpw.cells; obtain ⟨⟨q2, q3⟩, _⟩ := hxw.cells; obtain ⟨q4, q5⟩ := htw.cells; go_simp; try with_reducible rfl)
            try simp only [Act.put, List.setIfInBounds_toArray, List.set_cons_zero, List.set_cons_succ, List.getElem_toArray, List.getElem_cons_succ, List.getElem_cons_zero]
            refine wpAnyH_take (i := 8) (v := ?_) rfl (by kernel_rfl) (by kernel_rfl) (by kernel_rfl) (fun _ _ _ h => h) (Or.inl ⟨by rfl, ?_⟩) (by assumption) ?_
            rotate_left
            · (intro w hSw; obtain ⟨_, hpw, htw, hxw⟩ := hSw; obtain ⟨⟨q0, q1⟩, _⟩ := hpw.cells; obtain ⟨⟨q2, q3⟩, _⟩ := hxw.cells; obtain ⟨q4, q5⟩ := htw.cells; go_simp; try with_reducible rfl)
            try simp only [Act.put, List.setIfInBounds_toArray, List.set_cons_zero, List.set_cons_succ, List.getElem_toArray, List.getElem_cons_succ, List.getElem_cons_zero]
            refine wpAnyH_take (i := 9) (v := ?_) rfl (by kernel_rfl) (by kernel_rfl) (by kernel_rfl) (fun _ _ _ h => h) (Or.inl ⟨by rfl, ?_⟩) (by assumption) ?_
            rotate_left
            · (intro w hSw; obtain ⟨_, hpw, htw, hxw⟩ := hSw; obtain ⟨⟨q0, q1⟩, _⟩ := hpw.cells; obtain ⟨⟨q2, q3⟩, _⟩ := hxw.cells; obtain ⟨q4, q5⟩ := htw.cells; go_simp; try with_reducible rfl)
            try simp only [Act.put, List.setIfInBounds_toArray, List.set_cons_zero, List.set_cons_succ, List.getElem_toArray, List.getElem_cons_succ, List.getElem_cons_zero]
            refine wpAnyH_take (i := 10) (v := ?_) rfl (by kernel_rfl) (by kernel_rfl) (by kernel_rfl) (fun _ _ _ h => h) (Or.inl ⟨by rfl, ?_⟩) (by assumption) ?_
            rotate_left
            · (intro w hSw; obtain ⟨_, hpw, htw, hxw⟩ := hSw; obtain ⟨⟨q0, q1⟩, _⟩ := hpw.cells; obtain ⟨⟨q2, q3⟩, _⟩ := hxw.cells; obtain ⟨q4, q5⟩ := htw.cells; go_simp; try with_reducible rfl)
            try simp only [Act.put, List.setIfInBounds_toArray, List.set_cons_zero, List.set_cons_succ, List.getElem_toArray, List.getElem_cons_succ, List.getElem_cons_zero]
            refine wpAnyH_take (i := 11) (v := ?_) rfl (by kernel_rfl) (by kernel_rfl) (by kernel_rfl) (fun _ _ _ h => h) (Or.inl ⟨by rfl, ?_⟩) (by assumption) ?_
            rotate_left
            · (intro w hSw; obtain ⟨_, hpw, htw, hxw⟩ := hSw; obtain ⟨⟨q0, q1⟩, _⟩ := hpw.cells; obtain ⟨⟨q2, q3⟩, _⟩ := hxw.cells; obtain ⟨q4, q5⟩ := htw.cells; go_simp; try with_reducible rfl)
            try simp only [Act.put, List.setIfInBounds_toArray, List.set_cons_zero, List.set_cons_succ, List.getElem_toArray, List.getElem_cons_succ, List.getElem_cons_zero]
            refine wpAnyH_done (by kernel_rfl) ?_ _
            dsimp only [Exit.then]
            go_wp2
            go_ret
            exact ⟨rfl, hHeld.1⟩
          | false =>
            refine wp_region_held_drew (S := STv w w.heap.size (w.heap.size + 1 + 1) g8 h1 p1 t0 t1 H P) (by kernel_rfl) ?_ (fun hHeld => ?_)
            · exact hS2
            refine wpAnyH_take (i := 0) (v := ?_) rfl (by kernel_rfl) (by kernel_rfl) (by kernel_rfl) (fun _ _ _ h => h) (Or.inl ⟨by rfl, ?_⟩) (by assumption) ?_
            rotate_left
            · (intro w hSw; obtain ⟨_, hpw, htw, hxw⟩ := hSw; obtain ⟨⟨q0, q1⟩, _⟩ := hpw.cells; obtain ⟨⟨q2, q3⟩, _⟩ := hxw.cells; obtain ⟨q4, q5⟩ := htw.cells; go_simp; try with_reducible rfl)
            try simp only [Act.put, List.setIfInBounds_toArray, List.set_cons_zero, List.set_cons_succ, List.getElem_toArray, List.getElem_cons_succ, List.getElem_cons_zero]
            refine wpAnyH_take (i := 1) (v := ?_) rfl (by kernel_rfl) (by kernel_rfl) (by kernel_rfl) (fun _ _ _ h => h) (Or.inl ⟨by rfl, ?_⟩) (by assumption) ?_
            rotate_left
            · (intro w hSw; obtain ⟨_, hpw, htw, hxw⟩ := hSw; obtain ⟨⟨q0, q1⟩, _⟩ := hpw.cells; obtain ⟨⟨q2, q3⟩, _⟩ := hxw.cells; obtain ⟨q4, q5⟩ := htw.cells; go_simp; try with_reducible rfl)
            try simp only [Act.put, List.setIfInBounds_toArray, List.set_cons_zero, List.set_cons_succ, List.getElem_toArray, List.getElem_cons_succ, List.getElem_cons_zero]
            refine wpAnyH_take (i := 2) (v := ?_) rfl (by kernel_rfl) (by kernel_rfl) (by kernel_rfl) (fun _ _ _ h => h) (Or.inl ⟨by rfl, ?_⟩) (by assumption) ?_
            rotate_left
            · (intro w hSw; obtain ⟨_, hpw, htw, hxw⟩ := hSw; obtain ⟨⟨q0, q1⟩, _⟩ := hpw.cells; obtain ⟨⟨q2, q3⟩, _⟩ := hxw.cells; obtain ⟨q4, q5⟩ := htw.cells; go_simp; try with_reducible rfl)
            try simp only [Act.put, List.setIfInBounds_toArray, List.set_cons_zero, List.set_cons_succ, List.getElem_toArray, List.getElem_cons_succ, List.getElem_cons_zero]
            refine wpAnyH_take (i := 3) (v := ?_) rfl (by kernel_rfl) (by kernel_rfl) (by kernel_rfl) (fun _ _ _ h => h) (Or.inl ⟨by rfl, ?_⟩) (by assumption) ?_
            rotate_left
            · (intro w hSw; obtain ⟨_, hpw, htw, hxw⟩ := hSw; obtain ⟨⟨q0, q1⟩, _⟩ := hpw.cells; obtain ⟨⟨q2, q3⟩, _⟩ := hxw.cells; obtain ⟨q4, q5⟩ := htw.cells; go_simp; try with_reducible rfl)
            try simp only [Act.put, List.setIfInBounds_toArray, List.set_cons_zero, List.set_cons_succ, List.getElem_toArray, List.getElem_cons_succ, List.getElem_cons_zero]
            refine wpAnyH_take (i := 4) (v := ?_) rfl (by kernel_rfl) (by kernel_rfl) (by kernel_rfl) (fun _ _ _ h => h) (Or.inl ⟨by rfl, ?_⟩) (by assumption) ?_
            rotate_left
            · (intro w hSw; obtain ⟨_, hpw, htw, hxw⟩ := hSw; obtain ⟨⟨q0, q1⟩, _⟩ := hpw.cells; obtain ⟨⟨q2, q3⟩, _⟩ := hxw.cells; obtain ⟨q4, q5⟩ := htw.cells; go_simp; try with_reducible rfl)
            try simp only [Act.put, List.setIfInBounds_toArray, List.set_cons_zero, List.set_cons_succ, List.getElem_toArray, List.getElem_cons_succ, List.getElem_cons_zero]
            refine wpAnyH_take (i := 5) (v := ?_) rfl (by kernel_rfl) (by kernel_rfl) (by kernel_rfl) (fun _ _ _ h => h) (Or.inl ⟨by rfl, ?_⟩) (by assumption) ?_
            rotate_left
            · (intro w hSw; obtain ⟨_, hpw, htw, hxw⟩ := hSw; obtain ⟨⟨q0, q1⟩, _⟩ := hpw.cells; obtain ⟨⟨q2, q3⟩, _⟩ := hxw.cells; obtain ⟨q4, q5⟩ := htw.cells; go_simp; try with_reducible rfl)
            try simp only [Act.put, List.setIfInBounds_toArray, List.set_cons_zero, List.set_cons_succ, List.getElem_toArray, List.getElem_cons_succ, List.getElem_cons_zero]
            refine wpAnyH_take (i := 6) (v := ?_) rfl (by kernel_rfl) (by kernel_rfl) (by kernel_rfl) (fun _ _ _ h => h) (Or.inl ⟨by rfl, ?_⟩) (by assumption) ?_
            rotate_left
            · (intro w hSw; obtain ⟨_, hpw, htw, hxw⟩ := hSw; obtain ⟨⟨q0, q1⟩, _⟩ := hpw.cells; obtain ⟨⟨q2, q3⟩, _⟩ := hxw.cells; obtain ⟨q4, q5⟩ := htw.cells; go_simp; try with_reducible rfl)
            try simp only [Act.put, List.setIfInBounds_toArray, List.set_cons_zero, List.set_cons_succ, List.getElem_toArray, List.getElem_cons_succ, List.getElem_cons_zero]
            refine wpAnyH_take (i := 7) (v := ?_) rfl (by kernel_rfl) (by kernel_rfl) (by kernel_rfl) (fun _ _ _ h => h) (Or.inl ⟨by rfl, ?_⟩) (by assumption) ?_
            rotate_left
            · (intro w hSw; obtain ⟨_, hpw, htw, hxw⟩ := hSw; obtain ⟨⟨q0, q1⟩, _⟩ := hpw.cells; obtain ⟨⟨q2, q3⟩, _⟩ := hxw.cells; obtain ⟨q4, q5⟩ := htw.cells; go_simp; try with_reducible rfl)
            try simp only [Act.put, List.setIfInBounds_toArray, List.set_cons_zero, List.set_cons_succ, List.getElem_toArray, List.getElem_cons_succ, List.getElem_cons_zero]
            refine wpAnyH_take (i := 8) (v := ?_) rfl (by kernel_rfl) (by kernel_rfl) (by kernel_rfl) (fun _ _ _ h => h) (Or.inl ⟨by rfl, ?_⟩) (by assumption) ?_
            rotate_left
            · (intro w hSw; obtain ⟨_, hpw, htw, hxw⟩ := hSw; obtain ⟨⟨q0, q1⟩, _⟩ := hpw.cells; obtain ⟨⟨q2, q3⟩, _⟩ := hxw.cells; obtain ⟨q4, q5⟩ := htw.cells; go_simp; try with_reducible rfl)
            try simp only [Act.put, List.setIfInBounds_toArray, List.set_cons_zero, List.set_cons_succ, List.getElem_toArray, List.getElem_cons_succ, List.getElem_cons_zero]
            refine wpAnyH_take (i := 9) (v := ?_) rfl (by kernel_rfl) (by kernel_rfl) (by kernel_rfl) (fun _ _ _ h => h) (Or.inl ⟨by rfl, ?_⟩) (by assumption) ?_
            rotate_left
            · (intro w hSw; obtain ⟨_, hpw, htw, hxw⟩ := hSw; obtain ⟨⟨q0, q1⟩, _⟩ := hpw.cells; obtain ⟨⟨q2, q3⟩, _⟩ := hxw.cells; obtain ⟨q4, q5⟩ := htw.cells; go_simp; try with_reducible rfl)
            try simp only [Act.put, List.setIfInBounds_toArray, List.set_cons_zero, List.set_cons_succ, List.getElem_toArray, List.getElem_cons_succ, List.getElem_cons_zero]
            refine wpAnyH_take (i := 10) (v := ?_) rfl (by kernel_rfl) (by kernel_rfl) (by kernel_rfl) (fun _ _ _ h => h) (Or.inl ⟨by rfl, ?_⟩) (by assumption) ?_
            rotate_left
            · (intro w hSw; obtain ⟨_, hpw, htw, hxw⟩ := hSw; obtain ⟨⟨q0, q1⟩, _⟩ := hpw.cells; obtain ⟨⟨q2, q3⟩, _⟩ := hxw.cells; obtain ⟨q4, q5⟩ := htw.cells; go_simp; try with_reducible rfl)
            try simp only [Act.put, List.setIfInBounds_toArray, List.set_cons_zero, List.set_cons_succ, List.getElem_toArray, List.getElem_cons_succ, List.getElem_cons_zero]
            refine wpAnyH_take (i := 11) (v := ?_) rfl (by kernel_rfl) (by kernel_rfl) (by kernel_rfl) (fun _ _ _ h => h) (Or.inl ⟨by rfl, ?_⟩) (by assumption) ?_
            rotate_left
            · (intro w hSw; obtain ⟨_, hpw, htw, hxw⟩ := hSw; obtain ⟨⟨q0, q1⟩, _⟩ := hpw.cells; obtain ⟨⟨q2, q3⟩, _⟩ := hxw.cells; obtain ⟨q4, q5⟩ := htw.cells; go_simp; try with_reducible rfl)
            try simp only [Act.put, List.setIfInBounds_toArray, List.set_cons_zero, List.set_cons_succ, List.getElem_toArray, List.getElem_cons_succ, List.getElem_cons_zero]
            refine wpAnyH_done (by kernel_rfl) ?_ _
            dsimp only [Exit.then]
            go_wp2
            go_ret
            exact ⟨rfl, hHeld.1⟩
        · injection he with he1 he2
          injection he2 with he2 he3
          subst he1 he2 he3
          refine wp_region_held_drew (S := STv w w.heap.size (w.heap.size + 1 + 1) g8 h1 p1 t0 t1 0 0) (by kernel_rfl) ?_ (fun hHeld => ?_)
          · exact hS2
          refine wpAnyH_take (i := 0) (v := ?_) rfl (by kernel_rfl) (by kernel_rfl) (by kernel_rfl) (fun _ _ _ h => h) (Or.inl ⟨by rfl, ?_⟩) (by assumption) ?_
          rotate_left
          · (intro w hSw; obtain ⟨_, hpw, htw, hxw⟩ := hSw; obtain ⟨⟨q0, q1⟩, _⟩ := hpw.cells; obtain ⟨⟨q2, q3⟩, _⟩ := hxw.cells; obtain ⟨q4, q5⟩ := htw.cells; go_simp; try with_reducible rfl)
          try simp only [Act.put, List.setIfInBounds_toArray, List.set_cons_zero, List.set_cons_succ, List.getElem_toArray, List.getElem_cons_succ, List.getElem_cons_zero]
          refine wpAnyH_take (i := 1) (v := ?_) rfl (by kernel_rfl) (by kernel_rfl) (by kernel_rfl) (fun _ _ _ h => h) (Or.inl ⟨by rfl, ?_⟩) (by assumption) ?_
          rotate_left
          · (intro w hSw; obtain ⟨_, hpw, htw, hxw⟩ := hSw; obtain ⟨⟨q0, q1⟩, _⟩ := hpw.cells; obtain ⟨⟨q2, q3⟩, _⟩ := hxw.cells; obtain ⟨q4, q5⟩ := htw.cells; go_simp; try with_reducible rfl)
          try simp only [Act.put, List.setIfInBounds_toArray, List.set_cons_zero, List.set_cons_succ, List.getElem_toArray, List.getElem_cons_succ, List.getElem_cons_zero]
          refine wpAnyH_take (i := 2) (v := ?_) rfl (by kernel_rfl) (by kernel_rfl) (by kernel_rfl) (fun _ _ _ h => h) (Or.inl ⟨by rfl, ?_⟩) (by assumption) ?_
          rotate_left
          · (intro w hSw; obtain ⟨_, hpw, htw, hxw⟩ := hSw; obtain ⟨⟨q0, q1⟩, _⟩ := hpw.cells; obtain ⟨⟨q2, q3⟩, _⟩ := hxw.cells; obtain ⟨q4, q5⟩ := htw.cells; go_simp; try with_reducible rfl)
          try simp only [Act.put, List.setIfInBounds_toArray, List.set_cons_zero, List.set_cons_succ, List.getElem_toArray, List.getElem_cons_succ, List.getElem_cons_zero]
          refine wpAnyH_take (i := 3) (v := undef) rfl (by kernel_rfl) (by kernel_rfl) (by kernel_rfl) (fun _ _ _ h => h) (Or.inr ⟨by rfl, rfl⟩) (by assumption) ?_
          try simp only [Act.put, List.setIfInBounds_toArray, List.set_cons_zero, List.set_cons_succ, List.getElem_toArray, List.getElem_cons_succ, List.getElem_cons_zero]
          refine wpAnyH_take (i := 4) (v := undef) rfl (by kernel_rfl) (by kernel_rfl) (by kernel_rfl) (fun _ _ _ h => h) (Or.inr ⟨by rfl, rfl⟩) (by assumption) ?_
          try simp only [Act.put, List.setIfInBounds_toArray, List.set_cons_zero, List.set_cons_succ, List.getElem_toArray, List.getElem_cons_succ, List.getElem_cons_zero]
          refine wpAnyH_take (i := 5) (v := undef) rfl (by kernel_rfl) (by kernel_rfl) (by kernel_rfl) (fun _ _ _ h => h) (Or.inr ⟨by rfl, rfl⟩) (by assumption) ?_
          try simp only [Act.put, List.setIfInBounds_toArray, List.set_cons_zero, List.set_cons_succ, List.getElem_toArray, List.getElem_cons_succ, List.getElem_cons_zero]
          refine wpAnyH_take (i := 6) (v := ?_) rfl (by kernel_rfl) (by kernel_rfl) (by kernel_rfl) (fun _ _ _ h => h) (Or.inl ⟨by rfl, ?_⟩) (by assumption) ?_
          rotate_left
          · (intro w hSw; obtain ⟨_, hpw, htw, hxw⟩ := hSw; obtain ⟨⟨q0, q1⟩, _⟩ := hpw.cells; obtain ⟨⟨q2, q3⟩, _⟩ := hxw.cells; obtain ⟨q4, q5⟩ := htw.cells; go_simp; try with_reducible rfl)
          try simp only [Act.put, List.setIfInBounds_toArray, List.set_cons_zero, List.set_cons_succ, List.getElem_toArray, List.getElem_cons_succ, List.getElem_cons_zero]
          refine wpAnyH_take (i := 7) (v := ?_) rfl (by kernel_rfl) (by kernel_rfl) (by kernel_rfl) (fun _ _ _ h => h) (Or.inl ⟨by rfl, ?_⟩) (by assumption) ?_
          rotate_left
          · (intro w hSw; obtain ⟨_, hpw, htw, hxw⟩ := hSw; obtain ⟨⟨q0, q1⟩, _⟩ := hpw.cells; obtain ⟨⟨q2, q3⟩, _⟩ := hxw.cells; obtain ⟨q4, q5⟩ := htw.cells; go_simp; try with_reducible rfl)
          try simp only [Act.put, List.setIfInBounds_toArray, List.set_cons_zero, List.set_cons_succ, List.getElem_toArray, List.getElem_cons_succ, List.getElem_cons_zero]
          refine wpAnyH_take (i := 8) (v := ?_) rfl (by kernel_rfl) (by kernel_rfl) (by kernel_rfl) (fun _ _ _ h => h) (Or.inl ⟨by rfl, ?_⟩) (by assumption) ?_
          rotate_left
          · (intro w hSw; obtain ⟨_, hpw, htw, hxw⟩ := hSw; obtain ⟨⟨q0, q1⟩, _⟩ := hpw.cells; obtain ⟨⟨q2, q3⟩, _⟩ := hxw.cells; obtain ⟨q4, q5⟩ := htw.cells; go_simp; try with_reducible rfl)
          try simp only [Act.put, List.setIfInBounds_toArray, List.set_cons_zero, List.set_cons_succ, List.getElem_toArray, List.getElem_cons_succ, List.getElem_cons_zero]
          refine wpAnyH_take (i := 9) (v := ?_) rfl (by kernel_rfl) (by kernel_rfl) (by kernel_rfl) (fun _ _ _ h => h) (Or.inl ⟨by rfl, ?_⟩) (by assumption) ?_
          rotate_left
          · (intro w hSw; obtain ⟨_, hpw, htw, hxw⟩ := hSw; obtain ⟨⟨q0, q1⟩, _⟩ := hpw.cells; obtain ⟨⟨q2, q3⟩, _⟩ := hxw.cells; obtain ⟨q4, q5⟩ := htw.cells; go_simp; try with_reducible rfl)
          try simp only [Act.put, List.setIfInBounds_toArray, List.set_cons_zero, List.set_cons_succ, List.getElem_toArray, List.getElem_cons_succ, List.getElem_cons_zero]
          refine wpAnyH_take (i := 10) (v := ?_) rfl (by kernel_rfl) (by kernel_rfl) (by kernel_rfl) (fun _ _ _ h => h) (Or.inl ⟨by rfl, ?_⟩) (by assumption) ?_
          rotate_left
          · (intro w hSw; obtain ⟨_, hpw, htw, hxw⟩ := hSw; obtain ⟨⟨q0, q1⟩, _⟩ := hpw.cells; obtain ⟨⟨q2, q3⟩, _⟩ := hxw.cells; obtain ⟨q4, q5⟩ := htw.cells; go_simp; try with_reducible rfl)
          try simp only [Act.put, List.setIfInBounds_toArray, List.set_cons_zero, List.set_cons_succ, List.getElem_toArray, List.getElem_cons_succ, List.getElem_cons_zero]
          refine wpAnyH_take (i := 11) (v := ?_) rfl (by kernel_rfl) (by kernel_rfl) (by kernel_rfl) (fun _ _ _ h => h) (Or.inl ⟨by rfl, ?_⟩) (by assumption) ?_
          rotate_left
          · (intro w hSw; obtain ⟨_, hpw, htw, hxw⟩ := hSw; obtain ⟨⟨q0, q1⟩, _⟩ := hpw.cells; obtain ⟨⟨q2, q3⟩, _⟩ := hxw.cells; obtain ⟨q4, q5⟩ := htw.cells; go_simp; try with_reducible rfl)
          try simp only [Act.put, List.setIfInBounds_toArray, List.set_cons_zero, List.set_cons_succ, List.getElem_toArray, List.getElem_cons_succ, List.getElem_cons_zero]
          refine wpAnyH_done (by kernel_rfl) ?_ _
          dsimp only [Exit.then]
          go_wp2
          go_ret
          exact ⟨rfl, hHeld.1⟩
end Go.Proofs.YtjbhcaifmgbpgaaDoor.Ad
