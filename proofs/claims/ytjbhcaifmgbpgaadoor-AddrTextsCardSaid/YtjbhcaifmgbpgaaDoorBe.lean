/-
  addr: the walk of AddrTexts. Conditions: as the theorems state them.
-/
import Derived.Test.YtjbhcaifmgbpgaaDoorBd
import Derived.Test.YtjbhcaifmgbpgaaDoorAt
namespace Go.Proofs.YtjbhcaifmgbpgaaDoor.Ad
open Go Go.RowKit Go.Shelf Go.Proofs.YtjbhcaifmgbpgaaDoorW.PrintWords Go.Proofs.YtjbhcaifmgbpgaaDoorW.PrintLast Go.Proofs.YtjbhcaifmgbpgaaDoorW.PrintMore
set_option linter.unusedVariables false
set_option linter.unusedSimpArgs false
attribute [local go_sem] Oper.semAt_some
attribute [local go_sem] if_pl
def STx (W : World) (g1 g2 : Nat) (h p id : Int) (via : Bool) (h2 p2 id2 : Int) (via2 : Bool) (V : World) : Prop := Below W.heap.size W V ∧ PlAt V g1 (h, p, id, via) ∧ PlAt V g2 (h2, p2, id2, via2)
theorem STx.below {W : World} {g1 g2 : Nat} {h p id : Int} {via : Bool} {h2 p2 id2 : Int} {via2 : Bool} {V V' : World} (hs : STx W g1 g2 h p id via h2 p2 id2 via2 V) (hb : Below V.heap.size V V') : STx W g1 g2 h p id via h2 p2 id2 via2 V' :=
  ⟨hs.1.trans (hb.mono hs.1.size), hs.2.1.below hb, hs.2.2.below hb⟩
def STy (W : World) (g1 g2 g3 : Nat) (h p id : Int) (via : Bool) (h2 p2 id2 : Int) (via2 : Bool) (V : World) : Prop := STx W g1 g2 h p id via h2 p2 id2 via2 V ∧ PlAt V g3 (h, p, id, via)
theorem STy.below {W : World} {g1 g2 g3 : Nat} {h p id : Int} {via : Bool} {h2 p2 id2 : Int} {via2 : Bool} {V V' : World} (hs : STy W g1 g2 g3 h p id via h2 p2 id2 via2 V) (hb : Below V.heap.size V V') : STy W g1 g2 g3 h p id via h2 p2 id2 via2 V' :=
  ⟨hs.1.below hb, hs.2.below hb⟩
theorem plat_drew {w : World} {g : Nat} {q : PlaceP} (h : PlAt w g q) : PlAt w.drew g q := h.below (drew_below w)
theorem text_len {h p id : Int} {via : Bool} (hh : U32 h) (hm : (h ≠ 0 ∧ 1 ≤ p ∧ p ≤ 65535) ∧ 0 ≤ id ∧ id ≤ 2147483647 ∧ (via = true → 0 < id)) : (textV (h, p, id, via)).length ≤ 1000000 := by
  rw [textV_all, textV_mid, List.length_append, List.length_append]
  have h1 := bare_len hh hm.1.2.2
  have h2 : (dI id).length ≤ 10 := dec_lenk 9 id.toNat (by have := hm.2.2.1; omega)
  have h3 : (if 0 < id then p2W ++ dI id else []).length ≤ 15 := by
    split
    · rw [List.length_append]; have : p2W.length = 5 := rfl; omega
    · simp
  have h4 : (if via = true then ciW else []).length ≤ 12 := by
    split
    · exact Nat.le_refl _
    · simp
  omega
theorem texts_plain {h p id : Int} {via : Bool} {h2 p2 id2 : Int} {via2 : Bool} (hh : U32 h) (hh2 : U32 h2) (hm : mayP (h, p, id, via) = true) : decide (textP (h2, p2, id2, via2) = textV (h, p, id, via)) = eqP h p id via h2 p2 id2 via2 := by
  rw [eqP_iff]
  cases hm2 : mayP (h2, p2, id2, via2) with
  | true =>
    unfold textP
    rw [if_pos hm2, decide_eq_decide]
    exact ⟨fun e => text_inj hm hm2 hh hh2 e.symm, fun e => by rw [e]⟩
  | false =>
    unfold textP
    rw [if_neg (by rw [hm2]; decide), decide_eq_false (fun e => textV_ne _ e.symm), decide_eq_false (fun e => by rw [e, hm2] at hm; cases hm)]
set_option maxRecDepth 100000 in
set_option maxHeartbeats 8000000 in
theorem texts_calls (w : World) (hE : Env w) (h p id : Int) (via : Bool) (h2 p2 id2 : Int) (via2 : Bool) (hh : U32 h) (hh2 : U32 h2) : Calls Tryd.prog 3 #[.agg #[.int .u32 h, .int .i64 p, .int .i64 id, .bool via], .agg #[.int .u32 h2, .int .i64 p2, .int .i64 id2, .bool via2]] w fun e w' => e = .returned (.bool true) ∧ Below w.heap.size w w' := by
  obtain ⟨W1, hW1⟩ : ∃ W, w.alloc (.cells #[.int .u32 h, .int .i64 p, .int .i64 id, .bool via] 26) = W := ⟨_, rfl⟩
  have hb1 : Below w.heap.size w W1 := by rw [← hW1]; exact (Below.refl _ _).alloc (Nat.le_refl _) _
  have hs1 : W1.heap.size = w.heap.size + 1 := by rw [← hW1, World.size_alloc]
  have ha1 : PlAt W1 w.heap.size (h, p, id, via) := by rw [← hW1]; exact new_cellsN _ _ _
  obtain ⟨W, hW⟩ : ∃ W, W1.alloc (.cells #[.int .u32 h2, .int .i64 p2, .int .i64 id2, .bool via2] 26) = W := ⟨_, rfl⟩
  have hb2 : Below W1.heap.size W1 W := by rw [← hW]; exact (Below.refl _ _).alloc (Nat.le_refl _) _
  have ha2 : PlAt W (w.heap.size + 1) (h2, p2, id2, via2) := by rw [← hW, ← hs1]; exact new_cellsN _ _ _
  have hb0 := hb1.trans (hb2.mono hb1.size)
  have HB := Lib.hid hb0
  have HP := Lib.hid (ha1.below hb2)
  have HQ := Lib.hid ha2
  have KA := Lib.hid (awake_calls W (hE.below hb0))
  obtain ⟨s, hs⟩ : ∃ s, textP (h, p, id, via) = s := ⟨_, rfl⟩
  obtain ⟨m, hm⟩ : ∃ m, mayP (h, p, id, via) = m := ⟨_, rfl⟩
  have KT : Hid (∀ (V : World), Below W.heap.size W V → Calls Tryd.prog 10 #[.agg #[.int .u32 h, .int .i64 p, .int .i64 id, .bool via]] V fun e w' => e = .returned (.string (mk s)) ∧ Below V.heap.size V w') := Lib.hid (fun V hV => by have := text_calls V ((hE.below hb0).below hV) h p id via hh; rwa [hs] at this)
  have KU := Lib.hid (fun (V : World) (hV : Below W.heap.size W V) => text_calls V ((hE.below hb0).below hV) h2 p2 id2 via2 hh2)
  have KR : Hid (∀ (V : World), Calls Tryd.prog 11 #[.agg #[.int .u32 h, .int .i64 p, .int .i64 id, .bool via]] V fun e w' => e = .returned (.string (mk s)) ∧ Below V.heap.size V w') := Lib.hid (fun V => by have := reftext_calls V h p id via hh; rwa [hs] at this)
  have KM : Hid (∀ (V : World), Calls Tryd.prog 12 #[.agg #[.int .u32 h, .int .i64 p, .int .i64 id, .bool via]] V fun e w' => e = .returned (.bool m) ∧ Below V.heap.size V w') := Lib.hid (fun V => by have := mayp_calls V h p id via; rwa [hm] at this)
  have KP : Hid (∀ (V : World), Calls Tryd.prog 13 #[.agg #[.int .u32 h, .int .i64 p, .int .i64 id, .bool via]] V fun e w' => e = .returned (.bool m) ∧ Below V.heap.size V w') := Lib.hid (fun V => by have := refplace_calls V h p id via hh.1; rwa [hm] at this)
  have KE := Lib.hid (fun (V : World) (hV : Below W.heap.size W V) (x : ByteArray) (hx : x.size ≤ 1000000) => parse_calls V ((hE.below hb0).below hV) x hx)
  have HH := Lib.hid (And.intro hh hh2)
  have HM := Lib.hid hm
  have HS := Lib.hid hs
  clear hb1 hb2 ha1 ha2 hb0 hE hh hh2 hs hm
  have qs : ((mk s).toList == (mk s).toList) = true := by rw [str_eq, decide_eq_true rfl]
  go_enter Tryd.func3, Tryd.ntmps3
  go_upto_region 1 with fail
  clear hW hW1 hs1
  go_upto_region 3 with (go_at_call 9; refine KA.out.mono ?_; rintro e w1 ⟨rfl, hb1⟩; have HB1 := Lib.hid hb1; have HP1 := Lib.hid (HP.out.below hb1); have HQ1 := Lib.hid (HQ.out.below hb1); clear hb1)
  obtain ⟨c0, c1, c2, c3⟩ := HP1.out.cells.1
  dsimp only at c0 c1 c2 c3
  go_upto_region 4 with (go_at_call 10; refine (KT.out _ HB1.out).mono ?_; rintro e w2 ⟨rfl, hb2⟩; have HB2 := Lib.hid (HB1.out.trans (hb2.mono HB1.out.size)); have HP2 := Lib.hid (HP1.out.below hb2); have HQ2 := Lib.hid (HQ1.out.below hb2); clear hb2)
  clear c0 c1 c2 c3
  have hS0 : STx W w.heap.size (w.heap.size + 1) h p id via h2 p2 id2 via2 w2.drew := ⟨HB2.out.trans ((drew_below w2).mono HB2.out.size), plat_drew HP2.out, plat_drew HQ2.out⟩
  cases m with
  | false =>
    refine wp_region_held_drew (S := STx W w.heap.size (w.heap.size + 1) h p id via h2 p2 id2 via2) (by kernel_rfl) ?_ (fun hHeld => ?_)
    · exact hS0
    refine wpAnyH_take (i := 0) (v := ?_) rfl (by kernel_rfl) (by kernel_rfl) (by kernel_rfl) (fun _ _ _ h => h) (Or.inl ⟨by rfl, ?_⟩) (by assumption) ?_
    rotate_left
    · (intro w hSw; obtain ⟨_, hpw, hqw⟩ := hSw; obtain ⟨q0, q1, q2, q3⟩ := hpw.cells.1; obtain ⟨q4, q5, q6, q7⟩ := hqw.cells.1; dsimp only at q0 q1 q2 q3 q4 q5 q6 q7; go_simp; try with_reducible rfl)
    try simp only [Act.put, List.setIfInBounds_toArray, List.set_cons_zero, List.set_cons_succ, List.getElem_toArray, List.getElem_cons_succ, List.getElem_cons_zero]
    refine wpAnyH_take (i := 1) (v := ?_) rfl (by kernel_rfl) (by kernel_rfl) (by kernel_rfl) (fun _ _ _ h => h) (Or.inl ⟨by rfl, ?_⟩) (by assumption) ?_
    rotate_left
    · (intro w hSw; obtain ⟨_, hpw, hqw⟩ := hSw; obtain ⟨q0, q1, q2, q3⟩ := hpw.cells.1; obtain ⟨q4, q5, q6, q7⟩ := hqw.cells.1; dsimp only at q0 q1 q2 q3 q4 q5 q6 q7; go_simp; try with_reducible rfl)
    try simp only [Act.put, List.setIfInBounds_toArray, List.set_cons_zero, List.set_cons_succ, List.getElem_toArray, List.getElem_cons_succ, List.getElem_cons_zero]
    refine wpAnyH_ready (rs := [2]) (by kernel_rfl) (by simp) ?_
    refine AllReadyH.cons rfl (fun K hK => ?_) AllReadyH.nil
    go_simp
    go_at_call 11; refine (KR.out _).mono ?_; rintro e wn2 ⟨rfl, hbn⟩; have hSN := hHeld.below hbn; clear hbn
    refine hK.out _ _ ?_ (fun hHeld => ?_)
    · exact hSN
    clear hK K
    try simp only [Act.put, List.setIfInBounds_toArray, List.set_cons_zero, List.set_cons_succ, List.getElem_toArray, List.getElem_cons_succ, List.getElem_cons_zero]
    refine wpAnyH_take (i := 3) (v := ?_) rfl (by kernel_rfl) (by kernel_rfl) (by kernel_rfl) (fun _ _ _ h => h) (Or.inl ⟨by rfl, ?_⟩) (by assumption) ?_
    rotate_left
    · (intro w hSw; obtain ⟨_, hpw, hqw⟩ := hSw; obtain ⟨q0, q1, q2, q3⟩ := hpw.cells.1; obtain ⟨q4, q5, q6, q7⟩ := hqw.cells.1; dsimp only at q0 q1 q2 q3 q4 q5 q6 q7; go_simp; try with_reducible rfl)
    try simp only [Act.put, List.setIfInBounds_toArray, List.set_cons_zero, List.set_cons_succ, List.getElem_toArray, List.getElem_cons_succ, List.getElem_cons_zero]
    refine wpAnyH_take (i := 4) (v := ?_) rfl (by kernel_rfl) (by kernel_rfl) (by kernel_rfl) (fun _ _ _ h => h) (Or.inl ⟨by rfl, ?_⟩) (by assumption) ?_
    rotate_left
    · (intro w hSw; obtain ⟨_, hpw, hqw⟩ := hSw; obtain ⟨q0, q1, q2, q3⟩ := hpw.cells.1; obtain ⟨q4, q5, q6, q7⟩ := hqw.cells.1; dsimp only at q0 q1 q2 q3 q4 q5 q6 q7; go_simp; try with_reducible rfl)
    try simp only [Act.put, List.setIfInBounds_toArray, List.set_cons_zero, List.set_cons_succ, List.getElem_toArray, List.getElem_cons_succ, List.getElem_cons_zero]
    refine wpAnyH_take (i := 5) (v := ?_) rfl (by kernel_rfl) (by kernel_rfl) (by kernel_rfl) (fun _ _ _ h => h) (Or.inl ⟨by rfl, ?_⟩) (by assumption) ?_
    rotate_left
    · (intro w hSw; obtain ⟨_, hpw, hqw⟩ := hSw; obtain ⟨q0, q1, q2, q3⟩ := hpw.cells.1; obtain ⟨q4, q5, q6, q7⟩ := hqw.cells.1; dsimp only at q0 q1 q2 q3 q4 q5 q6 q7; go_simp; try with_reducible rfl)
    try simp only [Act.put, List.setIfInBounds_toArray, List.set_cons_zero, List.set_cons_succ, List.getElem_toArray, List.getElem_cons_succ, List.getElem_cons_zero]
    refine wpAnyH_take (i := 7) (v := ?_) rfl (by kernel_rfl) (by kernel_rfl) (by kernel_rfl) (fun _ _ _ h => h) (Or.inl ⟨by rfl, ?_⟩) (by assumption) ?_
    rotate_left
    · (intro w hSw; obtain ⟨_, hpw, hqw⟩ := hSw; obtain ⟨q0, q1, q2, q3⟩ := hpw.cells.1; obtain ⟨q4, q5, q6, q7⟩ := hqw.cells.1; dsimp only at q0 q1 q2 q3 q4 q5 q6 q7; go_simp; try with_reducible rfl)
    try simp only [Act.put, List.setIfInBounds_toArray, List.set_cons_zero, List.set_cons_succ, List.getElem_toArray, List.getElem_cons_succ, List.getElem_cons_zero]
    refine wpAnyH_ready (rs := [6]) (by kernel_rfl) (by simp) ?_
    refine AllReadyH.cons rfl (fun K hK => ?_) AllReadyH.nil
    go_simp
    go_at_call 12; refine (KM.out _).mono ?_; rintro e wn3 ⟨rfl, hbn⟩; have hSN := hHeld.below hbn; clear hbn
    refine hK.out _ _ ?_ (fun hHeld => ?_)
    · exact hSN
    clear hK K
    try simp only [Act.put, List.setIfInBounds_toArray, List.set_cons_zero, List.set_cons_succ, List.getElem_toArray, List.getElem_cons_succ, List.getElem_cons_zero]
    refine wpAnyH_ready (rs := [8]) (by kernel_rfl) (by simp) ?_
    refine AllReadyH.cons rfl (fun K hK => ?_) AllReadyH.nil
    go_simp
    go_at_call 13; refine (KP.out _).mono ?_; rintro e wn4 ⟨rfl, hbn⟩; have hSN := hHeld.below hbn; clear hbn
    refine hK.out _ _ ?_ (fun hHeld => ?_)
    · exact hSN
    clear hK K
    try simp only [Act.put, List.setIfInBounds_toArray, List.set_cons_zero, List.set_cons_succ, List.getElem_toArray, List.getElem_cons_succ, List.getElem_cons_zero]
    refine wpAnyH_take (i := 9) (v := ?_) rfl (by kernel_rfl) (by kernel_rfl) (by kernel_rfl) (fun _ _ _ h => h) (Or.inl ⟨by rfl, ?_⟩) (by assumption) ?_
    rotate_left
    · (intro w hSw; obtain ⟨_, hpw, hqw⟩ := hSw; obtain ⟨q0, q1, q2, q3⟩ := hpw.cells.1; obtain ⟨q4, q5, q6, q7⟩ := hqw.cells.1; dsimp only at q0 q1 q2 q3 q4 q5 q6 q7; go_simp; try with_reducible rfl)
    try simp only [Act.put, List.setIfInBounds_toArray, List.set_cons_zero, List.set_cons_succ, List.getElem_toArray, List.getElem_cons_succ, List.getElem_cons_zero]
    refine wpAnyH_take (i := 10) (v := ?_) rfl (by kernel_rfl) (by kernel_rfl) (by kernel_rfl) (fun _ _ _ h => h) (Or.inl ⟨by rfl, ?_⟩) (by assumption) ?_
    rotate_left
    · (intro w hSw; obtain ⟨_, hpw, hqw⟩ := hSw; obtain ⟨q0, q1, q2, q3⟩ := hpw.cells.1; obtain ⟨q4, q5, q6, q7⟩ := hqw.cells.1; dsimp only at q0 q1 q2 q3 q4 q5 q6 q7; go_simp; try with_reducible rfl)
    try simp only [Act.put, List.setIfInBounds_toArray, List.set_cons_zero, List.set_cons_succ, List.getElem_toArray, List.getElem_cons_succ, List.getElem_cons_zero]
    refine wpAnyH_done (by kernel_rfl) ?_ _
    dsimp only [Exit.then]
    obtain ⟨hbw, hpw, hqw⟩ := hHeld
    have HB3 := Lib.hid hbw
    have HP3 := Lib.hid hpw
    have HQ3 := Lib.hid hqw
    obtain ⟨V3, hV3⟩ : ∃ V, wn4 = V := ⟨_, rfl⟩
    rw [hV3] at HB3 HP3 HQ3 ⊢
    obtain ⟨c0, c1, c2, c3⟩ := HP3.out.cells.1
    dsimp only at c0 c1 c2 c3
    clear hbw hpw hqw hV3
    have q0 : ((mk s).toList == ([] : List UInt8)) = true := by rw [Go.ByteArray.toList_eq, mk_data, ← HS.out, show textP (h, p, id, via) = [] from if_neg (by rw [HM.out]; decide)]; rfl
    go_wp2_with (go_at_call 13; refine (KP.out _).mono ?_; rintro e w5 ⟨rfl, hb5⟩; have HB5 := Lib.hid (HB3.out.trans (hb5.mono HB3.out.size)); clear hb5)
    go_ret
    exact ⟨rfl, HB.out.trans (HB5.out.mono HB.out.size)⟩
  | true =>
    refine wp_region_held_drew (S := STx W w.heap.size (w.heap.size + 1) h p id via h2 p2 id2 via2) (by kernel_rfl) ?_ (fun hHeld => ?_)
    · exact hS0
    refine wpAnyH_take (i := 0) (v := ?_) rfl (by kernel_rfl) (by kernel_rfl) (by kernel_rfl) (fun _ _ _ h => h) (Or.inl ⟨by rfl, ?_⟩) (by assumption) ?_
    rotate_left
    · (intro w hSw; obtain ⟨_, hpw, hqw⟩ := hSw; obtain ⟨q0, q1, q2, q3⟩ := hpw.cells.1; obtain ⟨q4, q5, q6, q7⟩ := hqw.cells.1; dsimp only at q0 q1 q2 q3 q4 q5 q6 q7; go_simp; try with_reducible rfl)
    try simp only [Act.put, List.setIfInBounds_toArray, List.set_cons_zero, List.set_cons_succ, List.getElem_toArray, List.getElem_cons_succ, List.getElem_cons_zero]
    refine wpAnyH_take (i := 1) (v := ?_) rfl (by kernel_rfl) (by kernel_rfl) (by kernel_rfl) (fun _ _ _ h => h) (Or.inl ⟨by rfl, ?_⟩) (by assumption) ?_
    rotate_left
    · (intro w hSw; obtain ⟨_, hpw, hqw⟩ := hSw; obtain ⟨q0, q1, q2, q3⟩ := hpw.cells.1; obtain ⟨q4, q5, q6, q7⟩ := hqw.cells.1; dsimp only at q0 q1 q2 q3 q4 q5 q6 q7; go_simp; try with_reducible rfl)
    try simp only [Act.put, List.setIfInBounds_toArray, List.set_cons_zero, List.set_cons_succ, List.getElem_toArray, List.getElem_cons_succ, List.getElem_cons_zero]
    refine wpAnyH_ready (rs := [2]) (by kernel_rfl) (by simp) ?_
    refine AllReadyH.cons rfl (fun K hK => ?_) AllReadyH.nil
    go_simp
    go_at_call 11; refine (KR.out _).mono ?_; rintro e wn2 ⟨rfl, hbn⟩; have hSN := hHeld.below hbn; clear hbn
    refine hK.out _ _ ?_ (fun hHeld => ?_)
    · exact hSN
    clear hK K
    try simp only [Act.put, List.setIfInBounds_toArray, List.set_cons_zero, List.set_cons_succ, List.getElem_toArray, List.getElem_cons_succ, List.getElem_cons_zero]
    refine wpAnyH_take (i := 3) (v := ?_) rfl (by kernel_rfl) (by kernel_rfl) (by kernel_rfl) (fun _ _ _ h => h) (Or.inl ⟨by rfl, ?_⟩) (by assumption) ?_
    rotate_left
    · (intro w hSw; obtain ⟨_, hpw, hqw⟩ := hSw; obtain ⟨q0, q1, q2, q3⟩ := hpw.cells.1; obtain ⟨q4, q5, q6, q7⟩ := hqw.cells.1; dsimp only at q0 q1 q2 q3 q4 q5 q6 q7; go_simp; try with_reducible rfl)
    try simp only [Act.put, List.setIfInBounds_toArray, List.set_cons_zero, List.set_cons_succ, List.getElem_toArray, List.getElem_cons_succ, List.getElem_cons_zero]
    refine wpAnyH_take (i := 4) (v := ?_) rfl (by kernel_rfl) (by kernel_rfl) (by kernel_rfl) (fun _ _ _ h => h) (Or.inl ⟨by rfl, ?_⟩) (by assumption) ?_
    rotate_left
    · (intro w hSw; obtain ⟨_, hpw, hqw⟩ := hSw; obtain ⟨q0, q1, q2, q3⟩ := hpw.cells.1; obtain ⟨q4, q5, q6, q7⟩ := hqw.cells.1; dsimp only at q0 q1 q2 q3 q4 q5 q6 q7; go_simp; try with_reducible rfl)
    try simp only [Act.put, List.setIfInBounds_toArray, List.set_cons_zero, List.set_cons_succ, List.getElem_toArray, List.getElem_cons_succ, List.getElem_cons_zero]
    refine wpAnyH_take (i := 5) (v := ?_) rfl (by kernel_rfl) (by kernel_rfl) (by kernel_rfl) (fun _ _ _ h => h) (Or.inl ⟨by rfl, ?_⟩) (by assumption) ?_
    rotate_left
    · (intro w hSw; obtain ⟨_, hpw, hqw⟩ := hSw; obtain ⟨q0, q1, q2, q3⟩ := hpw.cells.1; obtain ⟨q4, q5, q6, q7⟩ := hqw.cells.1; dsimp only at q0 q1 q2 q3 q4 q5 q6 q7; go_simp; try with_reducible rfl)
    try simp only [Act.put, List.setIfInBounds_toArray, List.set_cons_zero, List.set_cons_succ, List.getElem_toArray, List.getElem_cons_succ, List.getElem_cons_zero]
    refine wpAnyH_take (i := 7) (v := ?_) rfl (by kernel_rfl) (by kernel_rfl) (by kernel_rfl) (fun _ _ _ h => h) (Or.inl ⟨by rfl, ?_⟩) (by assumption) ?_
    rotate_left
    · (intro w hSw; obtain ⟨_, hpw, hqw⟩ := hSw; obtain ⟨q0, q1, q2, q3⟩ := hpw.cells.1; obtain ⟨q4, q5, q6, q7⟩ := hqw.cells.1; dsimp only at q0 q1 q2 q3 q4 q5 q6 q7; go_simp; try with_reducible rfl)
    try simp only [Act.put, List.setIfInBounds_toArray, List.set_cons_zero, List.set_cons_succ, List.getElem_toArray, List.getElem_cons_succ, List.getElem_cons_zero]
    refine wpAnyH_ready (rs := [6]) (by kernel_rfl) (by simp) ?_
    refine AllReadyH.cons rfl (fun K hK => ?_) AllReadyH.nil
    go_simp
    go_at_call 12; refine (KM.out _).mono ?_; rintro e wn3 ⟨rfl, hbn⟩; have hSN := hHeld.below hbn; clear hbn
    refine hK.out _ _ ?_ (fun hHeld => ?_)
    · exact hSN
    clear hK K
    try simp only [Act.put, List.setIfInBounds_toArray, List.set_cons_zero, List.set_cons_succ, List.getElem_toArray, List.getElem_cons_succ, List.getElem_cons_zero]
    refine wpAnyH_ready (rs := [8]) (by kernel_rfl) (by simp) ?_
    refine AllReadyH.cons rfl (fun K hK => ?_) AllReadyH.nil
    go_simp
    go_at_call 13; refine (KP.out _).mono ?_; rintro e wn4 ⟨rfl, hbn⟩; have hSN := hHeld.below hbn; clear hbn
    refine hK.out _ _ ?_ (fun hHeld => ?_)
    · exact hSN
    clear hK K
    try simp only [Act.put, List.setIfInBounds_toArray, List.set_cons_zero, List.set_cons_succ, List.getElem_toArray, List.getElem_cons_succ, List.getElem_cons_zero]
    refine wpAnyH_take (i := 9) (v := ?_) rfl (by kernel_rfl) (by kernel_rfl) (by kernel_rfl) (fun _ _ _ h => h) (Or.inl ⟨by rfl, ?_⟩) (by assumption) ?_
    rotate_left
    · (intro w hSw; obtain ⟨_, hpw, hqw⟩ := hSw; obtain ⟨q0, q1, q2, q3⟩ := hpw.cells.1; obtain ⟨q4, q5, q6, q7⟩ := hqw.cells.1; dsimp only at q0 q1 q2 q3 q4 q5 q6 q7; go_simp; try with_reducible rfl)
    try simp only [Act.put, List.setIfInBounds_toArray, List.set_cons_zero, List.set_cons_succ, List.getElem_toArray, List.getElem_cons_succ, List.getElem_cons_zero]
    refine wpAnyH_take (i := 10) (v := ?_) rfl (by kernel_rfl) (by kernel_rfl) (by kernel_rfl) (fun _ _ _ h => h) (Or.inl ⟨by rfl, ?_⟩) (by assumption) ?_
    rotate_left
    · (intro w hSw; obtain ⟨_, hpw, hqw⟩ := hSw; obtain ⟨q0, q1, q2, q3⟩ := hpw.cells.1; obtain ⟨q4, q5, q6, q7⟩ := hqw.cells.1; dsimp only at q0 q1 q2 q3 q4 q5 q6 q7; go_simp; try with_reducible rfl)
    try simp only [Act.put, List.setIfInBounds_toArray, List.set_cons_zero, List.set_cons_succ, List.getElem_toArray, List.getElem_cons_succ, List.getElem_cons_zero]
    refine wpAnyH_done (by kernel_rfl) ?_ _
    dsimp only [Exit.then]
    obtain ⟨hbw, hpw, hqw⟩ := hHeld
    have HB3 := Lib.hid hbw
    have HP3 := Lib.hid hpw
    have HQ3 := Lib.hid hqw
    obtain ⟨V3, hV3⟩ : ∃ V, wn4 = V := ⟨_, rfl⟩
    rw [hV3] at HB3 HP3 HQ3 ⊢
    obtain ⟨c0, c1, c2, c3⟩ := HP3.out.cells.1
    dsimp only at c0 c1 c2 c3
    clear hbw hpw hqw hV3
    have hml := (mayP_iff _).1 HM.out
    dsimp only at hml
    have htv : textV (h, p, id, via) = s := by rw [← HS.out]; exact (if_pos HM.out).symm
    have hsl : (mk s).size ≤ 1000000 := by rw [mk_size, ← htv]; exact text_len HH.out.1 hml
    have KE2 : Hid (∀ V, Below W.heap.size W V → Calls Tryd.prog 14 #[.string (mk s)] V fun e w' => e = .returned (.tuple #[.agg #[.int .u32 h, .int .i64 p, .int .i64 id, .bool via], .int .i64 0]) ∧ Below V.heap.size V w') := Lib.hid (fun V hV => (KE.out V hV (mk s) hsl).mono (fun e w' q => by
      obtain ⟨q1, q2⟩ := q
      rw [mk_data, ← htv, parseR_some (parse_text HM.out HH.out.1)] at q1
      exact ⟨q1, q2⟩))
    have HTV := Lib.hid htv
    clear hml htv hsl KE
    go_upto_region 8 with (go_at_call 13; refine (KP.out _).mono ?_; rintro e w5 ⟨rfl, hb5⟩; have HB5 := Lib.hid (HB3.out.trans (hb5.mono HB3.out.size)); have HP5 := Lib.hid (HP3.out.below hb5); have HQ5 := Lib.hid (HQ3.out.below hb5); clear hb5)
    clear c0 c1 c2 c3
    go_upto_region 9 with (go_at_call 14; refine (KE2.out _ HB5.out).mono ?_; rintro e w6 ⟨rfl, hb6⟩; have HB6 := Lib.hid (HB5.out.trans (hb6.mono HB5.out.size)); have HP6 := Lib.hid (HP5.out.below hb6); have HQ6 := Lib.hid (HQ5.out.below hb6); clear hb6)
    obtain ⟨W7, hW7⟩ : ∃ W7, w6.alloc (.cells #[.int .u32 h, .int .i64 p, .int .i64 id, .bool via] 26) = W7 := ⟨_, rfl⟩
    have hb7 : Below w6.heap.size w6 W7 := by rw [← hW7]; exact (Below.refl _ _).alloc (Nat.le_refl _) _
    have hp7 : PlAt W7 w6.heap.size (h, p, id, via) := by rw [← hW7]; exact new_cellsN _ _ _
    rw [hW7]
    clear hW7
    obtain ⟨g, hg⟩ : ∃ g, w6.heap.size = g := ⟨_, rfl⟩
    rw [hg] at hp7 ⊢
    have HB7 := Lib.hid (HB6.out.trans (hb7.mono HB6.out.size))
    have hS1 : STy W w.heap.size (w.heap.size + 1) g h p id via h2 p2 id2 via2 W7.drew := ⟨⟨HB7.out.trans ((drew_below W7).mono HB7.out.size), plat_drew (HP6.out.below hb7), plat_drew (HQ6.out.below hb7)⟩, plat_drew hp7⟩
    clear hb7 hp7 hg
    have hpl := texts_plain (p2 := p2) (id2 := id2) (via2 := via2) HH.out.1 HH.out.2 HM.out
    obtain ⟨t, ht⟩ : ∃ t, textP (h2, p2, id2, via2) = t := ⟨_, rfl⟩
    rw [ht] at KU hpl
    have e1 : eqP h p id via h p id via = true := by rw [eqP_iff, decide_eq_true rfl]
    have qt : ((mk t).toList == (mk s).toList) = eqP h p id via h2 p2 id2 via2 := by rw [str_eq, ← HTV.out, hpl]
    obtain ⟨b, hb⟩ : ∃ b, eqP h p id via h2 p2 id2 via2 = b := ⟨_, rfl⟩
    rw [hb] at qt
    clear hpl ht
    cases b with
      | true =>
        refine wp_region_held_drew (S := STy W w.heap.size (w.heap.size + 1) g h p id via h2 p2 id2 via2) (by kernel_rfl) ?_ (fun hHeld => ?_)
        · exact hS1
        refine wpAnyH_take (i := 0) (v := ?_) rfl (by kernel_rfl) (by kernel_rfl) (by kernel_rfl) (fun _ _ _ h => h) (Or.inl ⟨by rfl, ?_⟩) (by assumption) ?_
        rotate_left
        · (intro w hSw; obtain ⟨⟨_, hpw, hqw⟩, hxw⟩ := hSw; obtain ⟨q0, q1, q2, q3⟩ := hpw.cells.1; obtain ⟨q4, q5, q6, q7⟩ := hqw.cells.1; obtain ⟨q8, q9, q10, q11⟩ := hxw.cells.1; dsimp only at q0 q1 q2 q3 q4 q5 q6 q7 q8 q9 q10 q11; go_simp; try with_reducible rfl)
        try simp only [Act.put, List.setIfInBounds_toArray, List.set_cons_zero, List.set_cons_succ, List.getElem_toArray, List.getElem_cons_succ, List.getElem_cons_zero]
        refine wpAnyH_take (i := 1) (v := ?_) rfl (by kernel_rfl) (by kernel_rfl) (by kernel_rfl) (fun _ _ _ h => h) (Or.inl ⟨by rfl, ?_⟩) (by assumption) ?_
        rotate_left
        · (intro w hSw; obtain ⟨⟨_, hpw, hqw⟩, hxw⟩ := hSw; obtain ⟨q0, q1, q2, q3⟩ := hpw.cells.1; obtain ⟨q4, q5, q6, q7⟩ := hqw.cells.1; obtain ⟨q8, q9, q10, q11⟩ := hxw.cells.1; dsimp only at q0 q1 q2 q3 q4 q5 q6 q7 q8 q9 q10 q11; go_simp; try with_reducible rfl)
        try simp only [Act.put, List.setIfInBounds_toArray, List.set_cons_zero, List.set_cons_succ, List.getElem_toArray, List.getElem_cons_succ, List.getElem_cons_zero]
        refine wpAnyH_take (i := 2) (v := ?_) rfl (by kernel_rfl) (by kernel_rfl) (by kernel_rfl) (fun _ _ _ h => h) (Or.inl ⟨by rfl, ?_⟩) (by assumption) ?_
        rotate_left
        · (intro w hSw; obtain ⟨⟨_, hpw, hqw⟩, hxw⟩ := hSw; obtain ⟨q0, q1, q2, q3⟩ := hpw.cells.1; obtain ⟨q4, q5, q6, q7⟩ := hqw.cells.1; obtain ⟨q8, q9, q10, q11⟩ := hxw.cells.1; dsimp only at q0 q1 q2 q3 q4 q5 q6 q7 q8 q9 q10 q11; go_simp; try with_reducible rfl)
        try simp only [Act.put, List.setIfInBounds_toArray, List.set_cons_zero, List.set_cons_succ, List.getElem_toArray, List.getElem_cons_succ, List.getElem_cons_zero]
        refine wpAnyH_take (i := 3) (v := ?_) rfl (by kernel_rfl) (by kernel_rfl) (by kernel_rfl) (fun _ _ _ h => h) (Or.inl ⟨by rfl, ?_⟩) (by assumption) ?_
        rotate_left
        · (intro w hSw; obtain ⟨⟨_, hpw, hqw⟩, hxw⟩ := hSw; obtain ⟨q0, q1, q2, q3⟩ := hpw.cells.1; obtain ⟨q4, q5, q6, q7⟩ := hqw.cells.1; obtain ⟨q8, q9, q10, q11⟩ := hxw.cells.1; dsimp only at q0 q1 q2 q3 q4 q5 q6 q7 q8 q9 q10 q11; go_simp; try with_reducible rfl)
        try simp only [Act.put, List.setIfInBounds_toArray, List.set_cons_zero, List.set_cons_succ, List.getElem_toArray, List.getElem_cons_succ, List.getElem_cons_zero]
        refine wpAnyH_take (i := 4) (v := ?_) rfl (by kernel_rfl) (by kernel_rfl) (by kernel_rfl) (fun _ _ _ h => h) (Or.inl ⟨by rfl, ?_⟩) (by assumption) ?_
        rotate_left
        · (intro w hSw; obtain ⟨⟨_, hpw, hqw⟩, hxw⟩ := hSw; obtain ⟨q0, q1, q2, q3⟩ := hpw.cells.1; obtain ⟨q4, q5, q6, q7⟩ := hqw.cells.1; obtain ⟨q8, q9, q10, q11⟩ := hxw.cells.1; dsimp only at q0 q1 q2 q3 q4 q5 q6 q7 q8 q9 q10 q11; go_simp; try with_reducible rfl)
        try simp only [Act.put, List.setIfInBounds_toArray, List.set_cons_zero, List.set_cons_succ, List.getElem_toArray, List.getElem_cons_succ, List.getElem_cons_zero]
        refine wpAnyH_take (i := 5) (v := ?_) rfl (by kernel_rfl) (by kernel_rfl) (by kernel_rfl) (fun _ _ _ h => h) (Or.inl ⟨by rfl, ?_⟩) (by assumption) ?_
        rotate_left
        · (intro w hSw; obtain ⟨⟨_, hpw, hqw⟩, hxw⟩ := hSw; obtain ⟨q0, q1, q2, q3⟩ := hpw.cells.1; obtain ⟨q4, q5, q6, q7⟩ := hqw.cells.1; obtain ⟨q8, q9, q10, q11⟩ := hxw.cells.1; dsimp only at q0 q1 q2 q3 q4 q5 q6 q7 q8 q9 q10 q11; go_simp; try with_reducible rfl)
        try simp only [Act.put, List.setIfInBounds_toArray, List.set_cons_zero, List.set_cons_succ, List.getElem_toArray, List.getElem_cons_succ, List.getElem_cons_zero]
        refine wpAnyH_take (i := 6) (v := ?_) rfl (by kernel_rfl) (by kernel_rfl) (by kernel_rfl) (fun _ _ _ h => h) (Or.inl ⟨by rfl, ?_⟩) (by assumption) ?_
        rotate_left
        · (intro w hSw; obtain ⟨⟨_, hpw, hqw⟩, hxw⟩ := hSw; obtain ⟨q0, q1, q2, q3⟩ := hpw.cells.1; obtain ⟨q4, q5, q6, q7⟩ := hqw.cells.1; obtain ⟨q8, q9, q10, q11⟩ := hxw.cells.1; dsimp only at q0 q1 q2 q3 q4 q5 q6 q7 q8 q9 q10 q11; go_simp; try with_reducible rfl)
        try simp only [Act.put, List.setIfInBounds_toArray, List.set_cons_zero, List.set_cons_succ, List.getElem_toArray, List.getElem_cons_succ, List.getElem_cons_zero]
        refine wpAnyH_take (i := 7) (v := ?_) rfl (by kernel_rfl) (by kernel_rfl) (by kernel_rfl) (fun _ _ _ h => h) (Or.inl ⟨by rfl, ?_⟩) (by assumption) ?_
        rotate_left
        · (intro w hSw; obtain ⟨⟨_, hpw, hqw⟩, hxw⟩ := hSw; obtain ⟨q0, q1, q2, q3⟩ := hpw.cells.1; obtain ⟨q4, q5, q6, q7⟩ := hqw.cells.1; obtain ⟨q8, q9, q10, q11⟩ := hxw.cells.1; dsimp only at q0 q1 q2 q3 q4 q5 q6 q7 q8 q9 q10 q11; go_simp; try with_reducible rfl)
        try simp only [Act.put, List.setIfInBounds_toArray, List.set_cons_zero, List.set_cons_succ, List.getElem_toArray, List.getElem_cons_succ, List.getElem_cons_zero]
        refine wpAnyH_take (i := 8) (v := ?_) rfl (by kernel_rfl) (by kernel_rfl) (by kernel_rfl) (fun _ _ _ h => h) (Or.inl ⟨by rfl, ?_⟩) (by assumption) ?_
        rotate_left
        · (intro w hSw; obtain ⟨⟨_, hpw, hqw⟩, hxw⟩ := hSw; obtain ⟨q0, q1, q2, q3⟩ := hpw.cells.1; obtain ⟨q4, q5, q6, q7⟩ := hqw.cells.1; obtain ⟨q8, q9, q10, q11⟩ := hxw.cells.1; dsimp only at q0 q1 q2 q3 q4 q5 q6 q7 q8 q9 q10 q11; go_simp; try with_reducible rfl)
        try simp only [Act.put, List.setIfInBounds_toArray, List.set_cons_zero, List.set_cons_succ, List.getElem_toArray, List.getElem_cons_succ, List.getElem_cons_zero]
        refine wpAnyH_take (i := 10) (v := ?_) rfl (by kernel_rfl) (by kernel_rfl) (by kernel_rfl) (fun _ _ _ h => h) (Or.inl ⟨by rfl, ?_⟩) (by assumption) ?_
        rotate_left
        · (intro w hSw; obtain ⟨⟨_, hpw, hqw⟩, hxw⟩ := hSw; obtain ⟨q0, q1, q2, q3⟩ := hpw.cells.1; obtain ⟨q4, q5, q6, q7⟩ := hqw.cells.1; obtain ⟨q8, q9, q10, q11⟩ := hxw.cells.1; dsimp only at q0 q1 q2 q3 q4 q5 q6 q7 q8 q9 q10 q11; go_simp; try with_reducible rfl)
        try simp only [Act.put, List.setIfInBounds_toArray, List.set_cons_zero, List.set_cons_succ, List.getElem_toArray, List.getElem_cons_succ, List.getElem_cons_zero]
        refine wpAnyH_take (i := 12) (v := ?_) rfl (by kernel_rfl) (by kernel_rfl) (by kernel_rfl) (fun _ _ _ h => h) (Or.inl ⟨by rfl, ?_⟩) (by assumption) ?_
        rotate_left
        · (intro w hSw; obtain ⟨⟨_, hpw, hqw⟩, hxw⟩ := hSw; obtain ⟨q0, q1, q2, q3⟩ := hpw.cells.1; obtain ⟨q4, q5, q6, q7⟩ := hqw.cells.1; obtain ⟨q8, q9, q10, q11⟩ := hxw.cells.1; dsimp only at q0 q1 q2 q3 q4 q5 q6 q7 q8 q9 q10 q11; go_simp; try with_reducible rfl)
        try simp only [Act.put, List.setIfInBounds_toArray, List.set_cons_zero, List.set_cons_succ, List.getElem_toArray, List.getElem_cons_succ, List.getElem_cons_zero]
        refine wpAnyH_take (i := 13) (v := ?_) rfl (by kernel_rfl) (by kernel_rfl) (by kernel_rfl) (fun _ _ _ h => h) (Or.inl ⟨by rfl, ?_⟩) (by assumption) ?_
        rotate_left
        · (intro w hSw; obtain ⟨⟨_, hpw, hqw⟩, hxw⟩ := hSw; obtain ⟨q0, q1, q2, q3⟩ := hpw.cells.1; obtain ⟨q4, q5, q6, q7⟩ := hqw.cells.1; obtain ⟨q8, q9, q10, q11⟩ := hxw.cells.1; dsimp only at q0 q1 q2 q3 q4 q5 q6 q7 q8 q9 q10 q11; go_simp; try with_reducible rfl)
        try simp only [Act.put, List.setIfInBounds_toArray, List.set_cons_zero, List.set_cons_succ, List.getElem_toArray, List.getElem_cons_succ, List.getElem_cons_zero]
        refine wpAnyH_take (i := 14) (v := ?_) rfl (by kernel_rfl) (by kernel_rfl) (by kernel_rfl) (fun _ _ _ h => h) (Or.inl ⟨by rfl, ?_⟩) (by assumption) ?_
        rotate_left
        · (intro w hSw; obtain ⟨⟨_, hpw, hqw⟩, hxw⟩ := hSw; obtain ⟨q0, q1, q2, q3⟩ := hpw.cells.1; obtain ⟨q4, q5, q6, q7⟩ := hqw.cells.1; obtain ⟨q8, q9, q10, q11⟩ := hxw.cells.1; dsimp only at q0 q1 q2 q3 q4 q5 q6 q7 q8 q9 q10 q11; go_simp; try with_reducible rfl)
        try simp only [Act.put, List.setIfInBounds_toArray, List.set_cons_zero, List.set_cons_succ, List.getElem_toArray, List.getElem_cons_succ, List.getElem_cons_zero]
        refine wpAnyH_ready (rs := [9]) (by kernel_rfl) (by simp) ?_
        refine AllReadyH.cons rfl (fun K hK => ?_) AllReadyH.nil
        go_simp
        go_at_call 10; refine (KU.out _ hHeld.1.1).mono ?_; rintro e wn5 ⟨rfl, hbn⟩; have hSN := hHeld.below hbn; clear hbn
        refine hK.out _ _ ?_ (fun hHeld => ?_)
        · exact hSN
        clear hK K
        try simp only [Act.put, List.setIfInBounds_toArray, List.set_cons_zero, List.set_cons_succ, List.getElem_toArray, List.getElem_cons_succ, List.getElem_cons_zero]
        refine wpAnyH_take (i := 11) (v := ?_) rfl (by kernel_rfl) (by kernel_rfl) (by kernel_rfl) (fun _ _ _ h => h) (Or.inl ⟨by rfl, ?_⟩) (by assumption) ?_
        rotate_left
        · (intro w hSw; obtain ⟨⟨_, hpw, hqw⟩, hxw⟩ := hSw; obtain ⟨q0, q1, q2, q3⟩ := hpw.cells.1; obtain ⟨q4, q5, q6, q7⟩ := hqw.cells.1; obtain ⟨q8, q9, q10, q11⟩ := hxw.cells.1; dsimp only at q0 q1 q2 q3 q4 q5 q6 q7 q8 q9 q10 q11; go_simp; try with_reducible rfl)
        try simp only [Act.put, List.setIfInBounds_toArray, List.set_cons_zero, List.set_cons_succ, List.getElem_toArray, List.getElem_cons_succ, List.getElem_cons_zero]
        refine wpAnyH_take (i := 15) (v := ?_) rfl (by kernel_rfl) (by kernel_rfl) (by kernel_rfl) (fun _ _ _ h => h) (Or.inl ⟨by rfl, ?_⟩) (by assumption) ?_
        rotate_left
        · (intro w hSw; obtain ⟨⟨_, hpw, hqw⟩, hxw⟩ := hSw; obtain ⟨q0, q1, q2, q3⟩ := hpw.cells.1; obtain ⟨q4, q5, q6, q7⟩ := hqw.cells.1; obtain ⟨q8, q9, q10, q11⟩ := hxw.cells.1; dsimp only at q0 q1 q2 q3 q4 q5 q6 q7 q8 q9 q10 q11; go_simp; try with_reducible rfl)
        try simp only [Act.put, List.setIfInBounds_toArray, List.set_cons_zero, List.set_cons_succ, List.getElem_toArray, List.getElem_cons_succ, List.getElem_cons_zero]
        refine wpAnyH_take (i := 16) (v := ?_) rfl (by kernel_rfl) (by kernel_rfl) (by kernel_rfl) (fun _ _ _ h => h) (Or.inl ⟨by rfl, ?_⟩) (by assumption) ?_
        rotate_left
        · (intro w hSw; obtain ⟨⟨_, hpw, hqw⟩, hxw⟩ := hSw; obtain ⟨q0, q1, q2, q3⟩ := hpw.cells.1; obtain ⟨q4, q5, q6, q7⟩ := hqw.cells.1; obtain ⟨q8, q9, q10, q11⟩ := hxw.cells.1; dsimp only at q0 q1 q2 q3 q4 q5 q6 q7 q8 q9 q10 q11; go_simp; try with_reducible rfl)
        try simp only [Act.put, List.setIfInBounds_toArray, List.set_cons_zero, List.set_cons_succ, List.getElem_toArray, List.getElem_cons_succ, List.getElem_cons_zero]
        refine wpAnyH_take (i := 17) (v := ?_) rfl (by kernel_rfl) (by kernel_rfl) (by kernel_rfl) (fun _ _ _ h => h) (Or.inl ⟨by rfl, ?_⟩) (by assumption) ?_
        rotate_left
        · (intro w hSw; obtain ⟨⟨_, hpw, hqw⟩, hxw⟩ := hSw; obtain ⟨q0, q1, q2, q3⟩ := hpw.cells.1; obtain ⟨q4, q5, q6, q7⟩ := hqw.cells.1; obtain ⟨q8, q9, q10, q11⟩ := hxw.cells.1; dsimp only at q0 q1 q2 q3 q4 q5 q6 q7 q8 q9 q10 q11; go_simp; try with_reducible rfl)
        try simp only [Act.put, List.setIfInBounds_toArray, List.set_cons_zero, List.set_cons_succ, List.getElem_toArray, List.getElem_cons_succ, List.getElem_cons_zero]
        refine wpAnyH_done (by kernel_rfl) ?_ _
        dsimp only [Exit.then]
        go_wp2
        go_ret
        exact ⟨rfl, HB.out.trans (hHeld.1.1.mono HB.out.size)⟩
      | false =>
        refine wp_region_held_drew (S := STy W w.heap.size (w.heap.size + 1) g h p id via h2 p2 id2 via2) (by kernel_rfl) ?_ (fun hHeld => ?_)
        · exact hS1
        refine wpAnyH_take (i := 0) (v := ?_) rfl (by kernel_rfl) (by kernel_rfl) (by kernel_rfl) (fun _ _ _ h => h) (Or.inl ⟨by rfl, ?_⟩) (by assumption) ?_
        rotate_left
        · (intro w hSw; obtain ⟨⟨_, hpw, hqw⟩, hxw⟩ := hSw; obtain ⟨q0, q1, q2, q3⟩ := hpw.cells.1; obtain ⟨q4, q5, q6, q7⟩ := hqw.cells.1; obtain ⟨q8, q9, q10, q11⟩ := hxw.cells.1; dsimp only at q0 q1 q2 q3 q4 q5 q6 q7 q8 q9 q10 q11; go_simp; try with_reducible rfl)
        try simp only [Act.put, List.setIfInBounds_toArray, List.set_cons_zero, List.set_cons_succ, List.getElem_toArray, List.getElem_cons_succ, List.getElem_cons_zero]
        refine wpAnyH_take (i := 1) (v := ?_) rfl (by kernel_rfl) (by kernel_rfl) (by kernel_rfl) (fun _ _ _ h => h) (Or.inl ⟨by rfl, ?_⟩) (by assumption) ?_
        rotate_left
        · (intro w hSw; obtain ⟨⟨_, hpw, hqw⟩, hxw⟩ := hSw; obtain ⟨q0, q1, q2, q3⟩ := hpw.cells.1; obtain ⟨q4, q5, q6, q7⟩ := hqw.cells.1; obtain ⟨q8, q9, q10, q11⟩ := hxw.cells.1; dsimp only at q0 q1 q2 q3 q4 q5 q6 q7 q8 q9 q10 q11; go_simp; try with_reducible rfl)
        try simp only [Act.put, List.setIfInBounds_toArray, List.set_cons_zero, List.set_cons_succ, List.getElem_toArray, List.getElem_cons_succ, List.getElem_cons_zero]
        refine wpAnyH_take (i := 2) (v := ?_) rfl (by kernel_rfl) (by kernel_rfl) (by kernel_rfl) (fun _ _ _ h => h) (Or.inl ⟨by rfl, ?_⟩) (by assumption) ?_
        rotate_left
        · (intro w hSw; obtain ⟨⟨_, hpw, hqw⟩, hxw⟩ := hSw; obtain ⟨q0, q1, q2, q3⟩ := hpw.cells.1; obtain ⟨q4, q5, q6, q7⟩ := hqw.cells.1; obtain ⟨q8, q9, q10, q11⟩ := hxw.cells.1; dsimp only at q0 q1 q2 q3 q4 q5 q6 q7 q8 q9 q10 q11; go_simp; try with_reducible rfl)
        try simp only [Act.put, List.setIfInBounds_toArray, List.set_cons_zero, List.set_cons_succ, List.getElem_toArray, List.getElem_cons_succ, List.getElem_cons_zero]
        refine wpAnyH_take (i := 3) (v := ?_) rfl (by kernel_rfl) (by kernel_rfl) (by kernel_rfl) (fun _ _ _ h => h) (Or.inl ⟨by rfl, ?_⟩) (by assumption) ?_
        rotate_left
        · (intro w hSw; obtain ⟨⟨_, hpw, hqw⟩, hxw⟩ := hSw; obtain ⟨q0, q1, q2, q3⟩ := hpw.cells.1; obtain ⟨q4, q5, q6, q7⟩ := hqw.cells.1; obtain ⟨q8, q9, q10, q11⟩ := hxw.cells.1; dsimp only at q0 q1 q2 q3 q4 q5 q6 q7 q8 q9 q10 q11; go_simp; try with_reducible rfl)
        try simp only [Act.put, List.setIfInBounds_toArray, List.set_cons_zero, List.set_cons_succ, List.getElem_toArray, List.getElem_cons_succ, List.getElem_cons_zero]
        refine wpAnyH_take (i := 4) (v := ?_) rfl (by kernel_rfl) (by kernel_rfl) (by kernel_rfl) (fun _ _ _ h => h) (Or.inl ⟨by rfl, ?_⟩) (by assumption) ?_
        rotate_left
        · (intro w hSw; obtain ⟨⟨_, hpw, hqw⟩, hxw⟩ := hSw; obtain ⟨q0, q1, q2, q3⟩ := hpw.cells.1; obtain ⟨q4, q5, q6, q7⟩ := hqw.cells.1; obtain ⟨q8, q9, q10, q11⟩ := hxw.cells.1; dsimp only at q0 q1 q2 q3 q4 q5 q6 q7 q8 q9 q10 q11; go_simp; try with_reducible rfl)
        try simp only [Act.put, List.setIfInBounds_toArray, List.set_cons_zero, List.set_cons_succ, List.getElem_toArray, List.getElem_cons_succ, List.getElem_cons_zero]
        refine wpAnyH_take (i := 5) (v := ?_) rfl (by kernel_rfl) (by kernel_rfl) (by kernel_rfl) (fun _ _ _ h => h) (Or.inl ⟨by rfl, ?_⟩) (by assumption) ?_
        rotate_left
        · (intro w hSw; obtain ⟨⟨_, hpw, hqw⟩, hxw⟩ := hSw; obtain ⟨q0, q1, q2, q3⟩ := hpw.cells.1; obtain ⟨q4, q5, q6, q7⟩ := hqw.cells.1; obtain ⟨q8, q9, q10, q11⟩ := hxw.cells.1; dsimp only at q0 q1 q2 q3 q4 q5 q6 q7 q8 q9 q10 q11; go_simp; try with_reducible rfl)
        try simp only [Act.put, List.setIfInBounds_toArray, List.set_cons_zero, List.set_cons_succ, List.getElem_toArray, List.getElem_cons_succ, List.getElem_cons_zero]
        refine wpAnyH_take (i := 6) (v := ?_) rfl (by kernel_rfl) (by kernel_rfl) (by kernel_rfl) (fun _ _ _ h => h) (Or.inl ⟨by rfl, ?_⟩) (by assumption) ?_
        rotate_left
        · (intro w hSw; obtain ⟨⟨_, hpw, hqw⟩, hxw⟩ := hSw; obtain ⟨q0, q1, q2, q3⟩ := hpw.cells.1; obtain ⟨q4, q5, q6, q7⟩ := hqw.cells.1; obtain ⟨q8, q9, q10, q11⟩ := hxw.cells.1; dsimp only at q0 q1 q2 q3 q4 q5 q6 q7 q8 q9 q10 q11; go_simp; try with_reducible rfl)
        try simp only [Act.put, List.setIfInBounds_toArray, List.set_cons_zero, List.set_cons_succ, List.getElem_toArray, List.getElem_cons_succ, List.getElem_cons_zero]
        refine wpAnyH_take (i := 7) (v := ?_) rfl (by kernel_rfl) (by kernel_rfl) (by kernel_rfl) (fun _ _ _ h => h) (Or.inl ⟨by rfl, ?_⟩) (by assumption) ?_
        rotate_left
        · (intro w hSw; obtain ⟨⟨_, hpw, hqw⟩, hxw⟩ := hSw; obtain ⟨q0, q1, q2, q3⟩ := hpw.cells.1; obtain ⟨q4, q5, q6, q7⟩ := hqw.cells.1; obtain ⟨q8, q9, q10, q11⟩ := hxw.cells.1; dsimp only at q0 q1 q2 q3 q4 q5 q6 q7 q8 q9 q10 q11; go_simp; try with_reducible rfl)
        try simp only [Act.put, List.setIfInBounds_toArray, List.set_cons_zero, List.set_cons_succ, List.getElem_toArray, List.getElem_cons_succ, List.getElem_cons_zero]
        refine wpAnyH_take (i := 8) (v := ?_) rfl (by kernel_rfl) (by kernel_rfl) (by kernel_rfl) (fun _ _ _ h => h) (Or.inl ⟨by rfl, ?_⟩) (by assumption) ?_
        rotate_left
        · (intro w hSw; obtain ⟨⟨_, hpw, hqw⟩, hxw⟩ := hSw; obtain ⟨q0, q1, q2, q3⟩ := hpw.cells.1; obtain ⟨q4, q5, q6, q7⟩ := hqw.cells.1; obtain ⟨q8, q9, q10, q11⟩ := hxw.cells.1; dsimp only at q0 q1 q2 q3 q4 q5 q6 q7 q8 q9 q10 q11; go_simp; try with_reducible rfl)
        try simp only [Act.put, List.setIfInBounds_toArray, List.set_cons_zero, List.set_cons_succ, List.getElem_toArray, List.getElem_cons_succ, List.getElem_cons_zero]
        refine wpAnyH_take (i := 10) (v := ?_) rfl (by kernel_rfl) (by kernel_rfl) (by kernel_rfl) (fun _ _ _ h => h) (Or.inl ⟨by rfl, ?_⟩) (by assumption) ?_
        rotate_left
        · (intro w hSw; obtain ⟨⟨_, hpw, hqw⟩, hxw⟩ := hSw; obtain ⟨q0, q1, q2, q3⟩ := hpw.cells.1; obtain ⟨q4, q5, q6, q7⟩ := hqw.cells.1; obtain ⟨q8, q9, q10, q11⟩ := hxw.cells.1; dsimp only at q0 q1 q2 q3 q4 q5 q6 q7 q8 q9 q10 q11; go_simp; try with_reducible rfl)
        try simp only [Act.put, List.setIfInBounds_toArray, List.set_cons_zero, List.set_cons_succ, List.getElem_toArray, List.getElem_cons_succ, List.getElem_cons_zero]
        refine wpAnyH_take (i := 12) (v := ?_) rfl (by kernel_rfl) (by kernel_rfl) (by kernel_rfl) (fun _ _ _ h => h) (Or.inl ⟨by rfl, ?_⟩) (by assumption) ?_
        rotate_left
        · (intro w hSw; obtain ⟨⟨_, hpw, hqw⟩, hxw⟩ := hSw; obtain ⟨q0, q1, q2, q3⟩ := hpw.cells.1; obtain ⟨q4, q5, q6, q7⟩ := hqw.cells.1; obtain ⟨q8, q9, q10, q11⟩ := hxw.cells.1; dsimp only at q0 q1 q2 q3 q4 q5 q6 q7 q8 q9 q10 q11; go_simp; try with_reducible rfl)
        try simp only [Act.put, List.setIfInBounds_toArray, List.set_cons_zero, List.set_cons_succ, List.getElem_toArray, List.getElem_cons_succ, List.getElem_cons_zero]
        refine wpAnyH_take (i := 13) (v := ?_) rfl (by kernel_rfl) (by kernel_rfl) (by kernel_rfl) (fun _ _ _ h => h) (Or.inl ⟨by rfl, ?_⟩) (by assumption) ?_
        rotate_left
        · (intro w hSw; obtain ⟨⟨_, hpw, hqw⟩, hxw⟩ := hSw; obtain ⟨q0, q1, q2, q3⟩ := hpw.cells.1; obtain ⟨q4, q5, q6, q7⟩ := hqw.cells.1; obtain ⟨q8, q9, q10, q11⟩ := hxw.cells.1; dsimp only at q0 q1 q2 q3 q4 q5 q6 q7 q8 q9 q10 q11; go_simp; try with_reducible rfl)
        try simp only [Act.put, List.setIfInBounds_toArray, List.set_cons_zero, List.set_cons_succ, List.getElem_toArray, List.getElem_cons_succ, List.getElem_cons_zero]
        refine wpAnyH_take (i := 14) (v := ?_) rfl (by kernel_rfl) (by kernel_rfl) (by kernel_rfl) (fun _ _ _ h => h) (Or.inl ⟨by rfl, ?_⟩) (by assumption) ?_
        rotate_left
        · (intro w hSw; obtain ⟨⟨_, hpw, hqw⟩, hxw⟩ := hSw; obtain ⟨q0, q1, q2, q3⟩ := hpw.cells.1; obtain ⟨q4, q5, q6, q7⟩ := hqw.cells.1; obtain ⟨q8, q9, q10, q11⟩ := hxw.cells.1; dsimp only at q0 q1 q2 q3 q4 q5 q6 q7 q8 q9 q10 q11; go_simp; try with_reducible rfl)
        try simp only [Act.put, List.setIfInBounds_toArray, List.set_cons_zero, List.set_cons_succ, List.getElem_toArray, List.getElem_cons_succ, List.getElem_cons_zero]
        refine wpAnyH_ready (rs := [9]) (by kernel_rfl) (by simp) ?_
        refine AllReadyH.cons rfl (fun K hK => ?_) AllReadyH.nil
        go_simp
        go_at_call 10; refine (KU.out _ hHeld.1.1).mono ?_; rintro e wn5 ⟨rfl, hbn⟩; have hSN := hHeld.below hbn; clear hbn
        refine hK.out _ _ ?_ (fun hHeld => ?_)
        · exact hSN
        clear hK K
        try simp only [Act.put, List.setIfInBounds_toArray, List.set_cons_zero, List.set_cons_succ, List.getElem_toArray, List.getElem_cons_succ, List.getElem_cons_zero]
        refine wpAnyH_take (i := 11) (v := ?_) rfl (by kernel_rfl) (by kernel_rfl) (by kernel_rfl) (fun _ _ _ h => h) (Or.inl ⟨by rfl, ?_⟩) (by assumption) ?_
        rotate_left
        · (intro w hSw; obtain ⟨⟨_, hpw, hqw⟩, hxw⟩ := hSw; obtain ⟨q0, q1, q2, q3⟩ := hpw.cells.1; obtain ⟨q4, q5, q6, q7⟩ := hqw.cells.1; obtain ⟨q8, q9, q10, q11⟩ := hxw.cells.1; dsimp only at q0 q1 q2 q3 q4 q5 q6 q7 q8 q9 q10 q11; go_simp; try with_reducible rfl)
        try simp only [Act.put, List.setIfInBounds_toArray, List.set_cons_zero, List.set_cons_succ, List.getElem_toArray, List.getElem_cons_succ, List.getElem_cons_zero]
        refine wpAnyH_take (i := 15) (v := ?_) rfl (by kernel_rfl) (by kernel_rfl) (by kernel_rfl) (fun _ _ _ h => h) (Or.inl ⟨by rfl, ?_⟩) (by assumption) ?_
        rotate_left
        · (intro w hSw; obtain ⟨⟨_, hpw, hqw⟩, hxw⟩ := hSw; obtain ⟨q0, q1, q2, q3⟩ := hpw.cells.1; obtain ⟨q4, q5, q6, q7⟩ := hqw.cells.1; obtain ⟨q8, q9, q10, q11⟩ := hxw.cells.1; dsimp only at q0 q1 q2 q3 q4 q5 q6 q7 q8 q9 q10 q11; go_simp; try with_reducible rfl)
        try simp only [Act.put, List.setIfInBounds_toArray, List.set_cons_zero, List.set_cons_succ, List.getElem_toArray, List.getElem_cons_succ, List.getElem_cons_zero]
        refine wpAnyH_take (i := 16) (v := ?_) rfl (by kernel_rfl) (by kernel_rfl) (by kernel_rfl) (fun _ _ _ h => h) (Or.inl ⟨by rfl, ?_⟩) (by assumption) ?_
        rotate_left
        · (intro w hSw; obtain ⟨⟨_, hpw, hqw⟩, hxw⟩ := hSw; obtain ⟨q0, q1, q2, q3⟩ := hpw.cells.1; obtain ⟨q4, q5, q6, q7⟩ := hqw.cells.1; obtain ⟨q8, q9, q10, q11⟩ := hxw.cells.1; dsimp only at q0 q1 q2 q3 q4 q5 q6 q7 q8 q9 q10 q11; go_simp; try with_reducible rfl)
        try simp only [Act.put, List.setIfInBounds_toArray, List.set_cons_zero, List.set_cons_succ, List.getElem_toArray, List.getElem_cons_succ, List.getElem_cons_zero]
        refine wpAnyH_take (i := 17) (v := ?_) rfl (by kernel_rfl) (by kernel_rfl) (by kernel_rfl) (fun _ _ _ h => h) (Or.inl ⟨by rfl, ?_⟩) (by assumption) ?_
        rotate_left
        · (intro w hSw; obtain ⟨⟨_, hpw, hqw⟩, hxw⟩ := hSw; obtain ⟨q0, q1, q2, q3⟩ := hpw.cells.1; obtain ⟨q4, q5, q6, q7⟩ := hqw.cells.1; obtain ⟨q8, q9, q10, q11⟩ := hxw.cells.1; dsimp only at q0 q1 q2 q3 q4 q5 q6 q7 q8 q9 q10 q11; go_simp; try with_reducible rfl)
        try simp only [Act.put, List.setIfInBounds_toArray, List.set_cons_zero, List.set_cons_succ, List.getElem_toArray, List.getElem_cons_succ, List.getElem_cons_zero]
        refine wpAnyH_done (by kernel_rfl) ?_ _
        dsimp only [Exit.then]
        go_wp2
        go_ret
        exact ⟨rfl, HB.out.trans (hHeld.1.1.mono HB.out.size)⟩
end Go.Proofs.YtjbhcaifmgbpgaaDoor.Ad
