/-
  FlowPlays: the walk of the law: whatever the window and the script: it returns true, and nothing that lay has turned. Condition: the script's numbers and bytes are of their kinds.
-/
import Derived.Test.YtgkcncdanhkkoaaGp
namespace Go.Proofs.Ytgkcncdanhkkoaa.Fw
open Go.RowKit Go.Maps Go.Proofs.Ytgkcncdanhkkoaa.Sp Go.Proofs.YtgkcncdanhkkoaaW.PrintWords Go.Proofs.YtgkcncdanhkkoaaW.PrintLast Go.Proofs.YtgkcncdanhkkoaaW.PrintMore
set_option linter.unusedVariables false
set_option linter.unusedSimpArgs false
theorem keep_below {w w' : World} {a : Addr} {v : Value} (hb : Below w.heap.size w w') (h : w.cell? a = some v) : w'.cell? a = some v := (hb.cell (World.block_lt_of_cell? _ _ h)).trans h
theorem same_n (w : World) (A0 : Option Addr) (n0 c0 : Nat) (l0 : List Int) (A1 : Option Addr) (n1 c1 : Nat) (l1 : List Int) (h0 : n0 = l0.length) (h1 : n1 = l1.length) (hr0 : Kd.C (Kd.int .u8) w A0 n0 l0) (hc0 : n0 ≤ c0) (hr1 : Kd.C (Kd.int .u8) w A1 n1 l1) (hc1 : n1 ≤ c1) (hl : n0 ≤ 140737488355328) :
    Calls Try.prog 12 #[.slice A0 n0 c0, .slice A1 n1 c1] w fun e w' => e = .returned (.bool (decide (l0 = l1))) ∧ Drawn0 w w' := by
  subst h0 h1
  exact same_calls w A0 c0 l0 A1 c1 l1 hr0 hc0 hr1 hc1 hl
set_option maxRecDepth 100000 in
set_option maxHeartbeats 8000000 in
theorem plays_calls (w : World) (x : Int) (A : Option Addr) (c : Nat) (l : List Step) (hx : i64B x) (hr : dDo.C w A l.length l) (hc : l.length ≤ c) (hlen : l.length ≤ 140737488355328) (hok : ∀ x ∈ l, okDo x) :
    Calls Try.prog 6 #[.int .i64 x, .slice A l.length c] w fun e w' => e = .returned (.bool true) ∧ Below w.heap.size w w' := by
  have HR := Lib.hid hr
  have HO := Lib.hid hok
  clear hr hok
  unfold i64B at hx
  have q25 : ∀ (w : World) (a : Addr), (binOp .eql 36 (.pointer (some a)) (.pointer none)).run Try.prog w = .ok (.bool false) w := fun w a => by kernel_rfl
  have q26 : ∀ (w : World) (a : Addr), (binOp .eql 24 (.pointer (some a)) (.pointer none)).run Try.prog w = .ok (.bool false) w := fun w a => by kernel_rfl
  have q27 : ∀ (w : World), (binOp .eql 24 (.pointer none) (.pointer none)).run Try.prog w = .ok (.bool true) w := fun w => by kernel_rfl
  have HA := Lib.hid (awake_calls w)
  have HS := Lib.hid (fun W (hW : Below w.heap.size w W) => small_calls W A c l (Kd.C_below HR.out hW) hc hlen)
  go_enter Try.func6, Try.ntmps6
  rcases Bool.eq_false_or_eq_true (smallB l) with hs | hs'
  case inr =>
    go_wp2_with (first
      | (go_at_call 8; refine HA.out.mono ?_; rintro e w1 ⟨rfl, hb1⟩)
      | (go_at_call 19; refine (HS.out _ hb1).mono ?_; rintro e w2 ⟨rfl, rfl⟩; rw [hs']))
    go_ret
    exact ⟨rfl, hb1⟩
  case inl =>
    have HSM := Lib.hid hs
    clear hs
    go_upto_region 7 with (first
      | (go_at_call 8; refine HA.out.mono ?_; rintro e w1 ⟨rfl, hb1⟩)
      | (go_at_call 19; refine (HS.out _ hb1).mono ?_; rintro e w2 ⟨rfl, rfl⟩; rw [HSM.out]; have HW1 := Lib.hid hb1; have hs1 := hb1.size; clear hb1)
      | (go_at_call 14; refine (ss_new (base := w.heap.size) (w := w1) (Xs := []) (av := fun _ => False) (fun k hk => hk.elim) hs1).mono ?_; rintro e w2 ⟨gs, rfl, h2, hb2⟩; have H2 := Lib.hid h2; have HW2 := Lib.hid (HW1.out.trans (hb2.mono hs1)); have hs2 := HW2.out.size; clear h2 hb2))
    have H3 := Lib.hid (qs_start H2.out hs2)
    obtain ⟨q, hq⟩ : ∃ q, w2.heap.size = q := ⟨_, rfl⟩
    obtain ⟨W3, hW3⟩ : ∃ W3, w2.alloc (.cells #[.slice none 0 0, .int .i64 0, .int .i64 0, .int .i64 0, .int .i64 0] 50) = W3 := ⟨_, rfl⟩
    have HW3 := Lib.hid (show Below w.heap.size w W3 from by rw [← hW3]; exact HW2.out.alloc hs2 _)
    have H3 := H3.out
    rw [hq, hW3] at H3
    have H3 := Lib.hid H3
    have hs3 := HW3.out.size
    rw [hq, hW3]
    clear hq hW3
    by_cases hxw : 1 ≤ x ∧ x ≤ 4096
    case neg =>
      have KN := Lib.hid (rcv_new_no W3 x (by omega))
      by_cases hx1 : x < 1
      · have g1 : decide (x < 1) = true := decide_eq_true hx1
        go_wp2_with (go_at_call 9; refine KN.out.mono ?_; rintro e w4 ⟨rfl, rfl⟩)
        go_ret
        exact ⟨rfl, HW3.out⟩
      · have g1 : decide (x < 1) = false := decide_eq_false hx1
        have g2 : decide (4096 < x) = true := decide_eq_true (by omega)
        go_wp2_with (go_at_call 9; refine KN.out.mono ?_; rintro e w4 ⟨rfl, rfl⟩)
        go_ret
        exact ⟨rfl, HW3.out⟩
    case pos =>
      obtain ⟨W, rfl⟩ : ∃ W : Nat, x = (W : Int) := ⟨x.toNat, by omega⟩
      have g1 : decide ((W : Int) < 1) = false := decide_eq_false (by omega)
      have g2 : decide (4096 < (W : Int)) = false := decide_eq_false (by omega)
      have g2n : decide (4096 < W) = false := decide_eq_false (by omega)
      have hWb : 1 ≤ W ∧ W ≤ 4096 := by omega
      go_upto_region 13 with (go_at_call 9; refine (rr_new W hWb.1 hWb.2 H3.out hs3).mono ?_; rintro e w4 ⟨gr, rfl, h4, hb4⟩; have H4 := Lib.hid h4; have HW4 := Lib.hid (HW3.out.trans (hb4.mono hs3)); have hs4 := HW4.out.size; clear h4 hb4)
      have h5 := qr_start H4.out hs4 W hWb.1 hWb.2
      obtain ⟨v, hv⟩ : ∃ v, w4.heap.size = v := ⟨_, rfl⟩
      obtain ⟨W5, hW5⟩ : ∃ W5, w4.alloc (.cells #[.int .i64 W, .slice none 0 0, .slice none 0 0, .int .i64 0] 54) = W5 := ⟨_, rfl⟩
      have HW5 := Lib.hid (show Below w.heap.size w W5 from by rw [← hW5]; exact HW4.out.alloc hs4 _)
      rw [hv, hW5] at h5
      -- rq, rcv, rs, snd: turned about
      have H5 := Lib.hid (show Sep W5 [sndOb w.heap.size gs S0, rsOb w.heap.size q S0, rcvOb w.heap.size gr (R0 W), rqOb w.heap.size v (R0 W)] (fun _ => False) from by
        obtain ⟨ok, a1, a2, a3, a4⟩ := Fw.Sep.fourth h5
        obtain ⟨ok', b1, b2, b3, b4⟩ := Fw.Sep.third a4
        exact ⟨ok, a1, a2, a3, ok', b1, b2, b3, Sep.swap b4⟩)
      have hs5 := HW5.out.size
      rw [hv, hW5]
      clear hv hW5 h5 g1 g2 g2n hxw
      go_wp2
      go_loopg [10] (60 : Nat) (fun kq v10 wr => ∃ (i : Nat) (s : S) (r : Rc), v10 = .int .i64 i ∧ i + kq = 60 ∧ r.win = W ∧ r.n ≤ 500 * i ∧ Hid (Sep wr [sndOb w.heap.size gs s, rsOb w.heap.size q s, rcvOb w.heap.size gr r, rqOb w.heap.size v r] (fun _ => False)) ∧ Hid (Below w.heap.size w wr))
      case atStart => exact ⟨0, S0, R0 W, rfl, by omega, rfl, Nat.zero_le _, H5, HW5⟩
      case round =>
        obtain ⟨i, s, r, rfl, hik, hwin, hrn, HT, HB⟩ := hrel
        by_cases hlt : i < l.length
        · have b0 : decide ((i : Int) < (l.length : Int)) = true := decide_eq_true (by omega)
          have b1 : (i : Int) < (l.length : Int) := by omega
          by_cases h60 : i < 60
          · have b2 : decide ((i : Int) < 60) = true := decide_eq_true (by omega)
            obtain ⟨x, hx⟩ : ∃ x, l[i] = x := ⟨_, rfl⟩
            have hxi : l[i]? = some x := by rw [getS hlt, hx]
            have hxo := HO.out x (by rw [← hx]; exact List.getElem_mem hlt)
            have hx600 := smallB_at HSM.out h60 hxi
            obtain ⟨ad, A2, c2, rfl, k0, k1, k2, k3, hc2, hC2⟩ := at_D HR.out i x hxi rfl
            have k0 := cell_on HB.out k0
            have k1 := cell_on HB.out k1
            have k2 := cell_on HB.out k2
            have k3 := cell_on HB.out k3
            obtain ⟨kind, a, b, t⟩ := x
            dsimp only at k0 k1 k2 k3 hc2 hC2 hx600
            have HX := Lib.hid hxo
            have hws := HB.out.size
            obtain ⟨W3, hW3⟩ : ∃ W3, wr.alloc (.cells #[.int .i64 kind, .int .i64 a, .int .i64 b, .slice A2 t.length c2] 46) = W3 := ⟨_, rfl⟩
            have h3b : Below wr.heap.size wr W3 := by rw [← hW3]; exact (Below.refl _ _).alloc (Nat.le_refl _) _
            have h3c : W3.heap[wr.heap.size]? = some (.cells #[.int .i64 kind, .int .i64 a, .int .i64 b, .slice A2 t.length c2] 46 (0, 0)) := by rw [← hW3]; exact new_cellsN _ _ _
            have h3s : wr.heap.size < W3.heap.size := by rw [← hW3]; simp
            have d0 := cell_cellsN h3c 0 (by simp)
            have d1 := cell_cellsN h3c 1 (by simp)
            have d2 := cell_cellsN h3c 2 (by simp)
            have d3 := cell_cellsN h3c 3 (by simp)
            simp only [List.getElem_toArray, List.getElem_cons_zero, List.getElem_cons_succ] at d0 d1 d2 d3
            have HT3 := Lib.hid ((HT.out.step h3b).sub (av' := fun k => k = wr.heap.size) (fun k hk => .inr (by omega)))
            have HE3 := Lib.hid h3c
            have HB3 := Lib.hid (HB.out.trans (h3b.mono hws))
            have HCV := Lib.hid (show ∀ V : World, Below w.heap.size w V → (Kd.int .u8).C V A2 t.length t from fun V hV => Kd.C_below hC2 hV)
            clear hx hxi hxo hC2 h3c h3b
            go_upto_block 2 with fail
            go_cut [] (fun wx => ∃ (s : S) (r : Rc), r.win = W ∧ r.n ≤ 500 * (i + 1) ∧ Hid (Sep wx [sndOb w.heap.size gs s, rsOb w.heap.size q s, rcvOb w.heap.size gr r, rqOb w.heap.size v r] (fun _ => False)) ∧ Hid (Below w.heap.size w wx))
            case first =>
              as_aux_lemma =>
                have hs3' := HB3.out.size
                clear b0 b1 b2 k0 k1 k2 k3 hW3
                by_cases e0 : kind = 0
                · subst e0
                  have z0 : ((writeN s t : Int) != (writeN s t : Int)) = false := by simp
                  have hb3d : Below W3.heap.size W3 W3.drew := ⟨rfl, rfl, rfl, Nat.le_refl _, fun _ _ => rfl⟩
                  have HT3d := Lib.hid (HT3.out.step' hb3d)
                  have HB3d := Lib.hid (HB3.out.trans (hb3d.mono hs3'))
                  clear hb3d
                  go_upto_region 21 with fail
                  go_region_held3 (fun w' => w'.cell? ⟨wr.heap.size, 3, none⟩ = some (.slice A2 t.length c2)) (first | exact d3 | exact f3 | exact f5 | go_keep)
                    (first
                      | (go_at_call 15; refine (ss_write A2 t.length c2 t rfl HT3d.out (by have : W3.drew.heap.size = W3.heap.size := rfl; omega) (HCV.out _ HB3d.out) hc2 HX.out.2.2.2 (by omega)).mono ?_; rintro e w4 ⟨rfl, h4, k4, hb4⟩; have H4 := Lib.hid h4; have HB4 := Lib.hid (HB3d.out.trans hb4); have hs4' := HB4.out.size; have hE4 := (k4 _ rfl).trans HE3.out; have f3 := cell_cellsN hE4 3 (by simp); simp only [List.getElem_toArray, List.getElem_cons_zero, List.getElem_cons_succ] at f3; have HE4 := Lib.hid hE4; clear h4 hb4 k4 hE4)
                      | (go_at_call 21; refine (qs_write A2 c2 t (Sep.swap H4.out) hs4' (fun V hV => HCV.out V (HB4.out.trans hV)) hc2 HX.out.2.2.2 (by omega)).mono ?_; rintro e w5 ⟨rfl, h5, k5, hb5⟩; have H5 := Lib.hid (Sep.swap h5); have HB5 := Lib.hid (HB4.out.trans hb5); have hE5 := (k5 _ rfl).trans HE4.out; have f5 := cell_cellsN hE5 3 (by simp); simp only [List.getElem_toArray, List.getElem_cons_zero, List.getElem_cons_succ] at f5; clear h5 hb5 k5 hE5))
                  all_goals
                    go_wp2_with fail
                    go_meet
                    case rel => exact ⟨writeS s t, r, hwin, by omega, Lib.hid (H5.out.sub (fun k hk => hk.elim)), HB5⟩
                · have p0 : (kind == 0) = false := by simpa using e0
                  clear e0
                  by_cases e1 : kind = 1
                  · subst e1
                    by_cases hne : nextE s ≤ s.next
                    · have KN := Lib.hid (ss_next_no HT3.out hne)
                      go_upto_region 25 with (go_at_call 17; refine KN.out.mono ?_; rintro e w4 ⟨rfl, hb4⟩; have HB4 := Lib.hid hb4; clear hb4)
                      obtain ⟨W5, hW5⟩ : ∃ W5, w4.alloc (.cells #[.int .i64 0, .slice none 0 0] 29) = W5 := ⟨_, rfl⟩
                      have hb5 : Below w4.heap.size w4 W5 := by rw [← hW5]; exact (Below.refl _ _).alloc (Nat.le_refl _) _
                      have hE5 : W5.heap[w4.heap.size]? = some (.cells #[.int .i64 0, .slice none 0 0] 29 (0, 0)) := by rw [← hW5]; exact new_cellsN _ _ _
                      have hl5 : w4.heap.size < W5.heap.size := by rw [← hW5]; simp
                      have H5 := Lib.hid (((HT3.out.step' HB4.out).step hb5).sub (av' := fun k => k = w4.heap.size) (fun k hk => .inr (by omega)))
                      have HB5 := Lib.hid (HB3.out.trans ((HB4.out.mono hs3').trans (hb5.mono (Nat.le_trans hs3' HB4.out.size))))
                      have HE5 := Lib.hid hE5
                      have KT := Lib.hid (qs_take_no (Sep.swap H5.out) hne)
                      rw [hW5]
                      clear hb5 hE5 hW5
                      go_upto_region 26 with (go_at_call 22; refine KT.out.mono ?_; rintro e w6 ⟨rfl, h6, k6, hb6⟩; have H6 := Lib.hid (Sep.swap h6); have HE6 := Lib.hid ((k6 _ rfl).trans HE5.out); have HB6 := Lib.hid (HB5.out.trans hb6); clear h6 k6 hb6)
                      obtain ⟨W7, hW7⟩ : ∃ W7, w6.alloc (.cells #[.int .i64 0, .slice none 0 0] 29) = W7 := ⟨_, rfl⟩
                      have hb7 : Below w6.heap.size w6 W7 := by rw [← hW7]; exact (Below.refl _ _).alloc (Nat.le_refl _) _
                      have hE7 : W7.heap[w6.heap.size]? = some (.cells #[.int .i64 0, .slice none 0 0] 29 (0, 0)) := by rw [← hW7]; exact new_cellsN _ _ _
                      have hE7a := (hb7.block w4.heap.size (Array.getElem?_eq_some_iff.1 HE6.out).1).trans HE6.out
                      have H7 := Lib.hid (H6.out.step' hb7)
                      have HB7 := Lib.hid (HB6.out.trans (hb7.mono HB6.out.size))
                      have a0 := cell_cellsN hE7a 0 (by simp)
                      have a1 := cell_cellsN hE7a 1 (by simp)
                      have y0 := cell_cellsN hE7 0 (by simp)
                      have y1 := cell_cellsN hE7 1 (by simp)
                      dsimp only [List.getElem_toArray, List.getElem_cons_zero, List.getElem_cons_succ] at a0 a1 y0 y1
                      have KS := Lib.hid (show Calls Try.prog 12 #[.slice none 0 0, .slice none 0 0] W7 fun e w' => e = .returned (.bool true) ∧ Drawn0 W7 w' from (same_calls W7 none 0 [] none 0 [] (Kd.C_nil _ _) (Nat.le_refl _) (Kd.C_nil _ _) (Nat.le_refl _) (by decide)).mono fun e w' ⟨he, hd⟩ => ⟨by rw [he, decide_eq_true rfl], hd⟩)
                      rw [hW7]
                      clear hb7 hE7 hE7a hW7
                      go_wp2_with (go_at_call 12; refine KS.out.mono ?_; rintro e w8 ⟨rfl, hd⟩)
                      go_meet
                      case rel => exact ⟨s, r, hwin, by omega, Lib.hid ((H7.out.step' hd.below).sub (fun k hk => hk.elim)), Lib.hid (HB7.out.trans (hd.below.mono HB7.out.size))⟩
                    · have HNE := Lib.hid (show s.next < nextE s by omega)
                      obtain ⟨n1, hn1⟩ : ∃ n1, nextE s - s.next = n1 := ⟨_, rfl⟩
                      have HL := Lib.hid (show (nextB s).length = n1 by rw [nextB_len (ss_fine HT3.out), hn1])
                      have hn500 : n1 ≤ 500 := by have := nextE_le s; omega
                      have KN := Lib.hid (ss_next_yes HT3.out HNE.out)
                      clear hn1 hne
                      go_upto_region 25 with (go_at_call 17; refine KN.out.mono ?_; rintro e w4 ⟨v4, rfl, hR4, h4, _, hb4⟩; obtain ⟨A4, c4, hv4, hc4, _⟩ := Kd.R_reads hR4; rw [HL.out] at hv4 hc4; subst hv4; have H4 := Lib.hid h4; have HR4 := Lib.hid hR4; have HB4 := Lib.hid (HB3.out.trans hb4); have hs34 := hb4.size; clear h4 hb4 hR4)
                      obtain ⟨W5, hW5⟩ : ∃ W5, w4.alloc (.cells #[.int .i64 s.next, .slice A4 n1 c4] 29) = W5 := ⟨_, rfl⟩
                      have hb5 : Below w4.heap.size w4 W5 := by rw [← hW5]; exact (Below.refl _ _).alloc (Nat.le_refl _) _
                      have hE5 : W5.heap[w4.heap.size]? = some (.cells #[.int .i64 s.next, .slice A4 n1 c4] 29 (0, 0)) := by rw [← hW5]; exact new_cellsN _ _ _
                      have hl5 : w4.heap.size < W5.heap.size := by rw [← hW5]; simp
                      have H5 := Lib.hid ((H4.out.step hb5).sub (av' := fun k => W3.heap.size ≤ k ∧ k < W5.heap.size) (fun k hk => by
                        by_cases hl : k < w4.heap.size
                        · exact .inl (.inr ⟨hk.1, hl⟩)
                        · exact .inr ⟨by omega, hk.2⟩))
                      have HB5 := Lib.hid (HB4.out.trans (hb5.mono HB4.out.size))
                      have HE5 := Lib.hid hE5
                      have HR5 := Lib.hid (show (Kd.int .u8).R 5 W5 W3.heap.size (fun k => W3.heap.size ≤ k ∧ k < W5.heap.size) (.slice A4 n1 c4) (nextB s) from R_own (Kd.R_below HR4.out hb5))
                      have KT := Lib.hid (qs_take_yes (Sep.swap H5.out) HNE.out)
                      rw [hW5]
                      clear hb5 hE5 hW5
                      go_upto_region 26 with (go_at_call 22; refine KT.out.mono ?_; rintro e w6 ⟨v6, rfl, hR6, h6, k6, hb6⟩; obtain ⟨A6, c6, hv6, hc6, hC6⟩ := Kd.R_reads hR6; rw [HL.out] at hv6 hc6 hC6; subst hv6; have H6 := Lib.hid (Sep.swap h6); have HC6 := Lib.hid hC6; have HE6 := Lib.hid ((k6 w4.heap.size ⟨hs34, hl5⟩).trans HE5.out); have HR6 := Lib.hid (Kd.R_step (w1 := w6) HR5.out (fun k hk _ => k6 k hk)); have HB6 := Lib.hid (HB5.out.trans hb6); clear h6 k6 hb6 hR6 hC6)
                      obtain ⟨W7, hW7⟩ : ∃ W7, w6.alloc (.cells #[.int .i64 s.next, .slice A6 n1 c6] 29) = W7 := ⟨_, rfl⟩
                      have hb7 : Below w6.heap.size w6 W7 := by rw [← hW7]; exact (Below.refl _ _).alloc (Nat.le_refl _) _
                      have hE7 : W7.heap[w6.heap.size]? = some (.cells #[.int .i64 s.next, .slice A6 n1 c6] 29 (0, 0)) := by rw [← hW7]; exact new_cellsN _ _ _
                      have hE7a := (hb7.block w4.heap.size (Array.getElem?_eq_some_iff.1 HE6.out).1).trans HE6.out
                      have H7 := Lib.hid (H6.out.step' hb7)
                      have HB7 := Lib.hid (HB6.out.trans (hb7.mono HB6.out.size))
                      have a0 := cell_cellsN hE7a 0 (by simp)
                      have a1 := cell_cellsN hE7a 1 (by simp)
                      have y0 := cell_cellsN hE7 0 (by simp)
                      have y1 := cell_cellsN hE7 1 (by simp)
                      dsimp only [List.getElem_toArray, List.getElem_cons_zero, List.getElem_cons_succ] at a0 a1 y0 y1
                      have KS := Lib.hid (show Calls Try.prog 12 #[.slice A4 n1 c4, .slice A6 n1 c6] W7 fun e w' => e = .returned (.bool true) ∧ Drawn0 W7 w' from by
                        obtain ⟨_, _, hC4⟩ := Kd.R_reads' (Kd.R_below HR6.out hb7)
                        have h := same_calls W7 A4 c4 (nextB s) A6 c6 (nextB s) hC4 (by rw [HL.out]; exact hc4) (by rw [HL.out]; exact Kd.C_below HC6.out hb7) (by rw [HL.out]; exact hc6) (by rw [HL.out]; omega)
                        rw [HL.out] at h
                        exact h.mono fun e w' ⟨he, hd⟩ => ⟨by rw [he, decide_eq_true rfl], hd⟩)
                      have z0 : ((s.next : Int) != (s.next : Int)) = false := by simp
                      rw [hW7]
                      clear hb7 hE7 hE7a hW7
                      go_wp2_with (go_at_call 12; refine KS.out.mono ?_; rintro e w8 ⟨rfl, hd⟩)
                      go_meet
                      case rel => exact ⟨nextS s, r, hwin, by omega, Lib.hid ((H7.out.step' hd.below).sub (fun k hk => hk.elim)), Lib.hid (HB7.out.trans (hd.below.mono HB7.out.size))⟩
                  · have p1 : (kind == 1) = false := by simpa using e1
                    clear e1
                    have hb3d : Below W3.heap.size W3 W3.drew := ⟨rfl, rfl, rfl, Nat.le_refl _, fun _ _ => rfl⟩
                    have HT3d := Lib.hid (HT3.out.step' hb3d)
                    have HB3d := Lib.hid (HB3.out.trans (hb3d.mono hs3'))
                    have hs3d : w.heap.size ≤ W3.drew.heap.size := HB3d.out.size
                    clear hb3d
                    by_cases e2 : kind = 2
                    · subst e2
                      rcases Bool.eq_false_or_eq_true (ackB s a b) with hak | hak
                      · have KA := Lib.hid (ss_ack_no a b HT3d.out hak)
                        have KB := Lib.hid (qs_ack_no a b (Sep.swap HT3d.out) hak)
                        have z0 : (false != false) = false := rfl
                        clear hak
                        go_upto_region 29 with fail
                        go_region_held3 (fun w' => w'.cell? ⟨wr.heap.size, 1, none⟩ = some (.int .i64 a) ∧ w'.cell? ⟨wr.heap.size, 2, none⟩ = some (.int .i64 b)) (first | exact ⟨d1, d2⟩ | go_keep)
                          (first
                            | (go_at_call 16; refine KA.out.mono ?_; rintro e w4 ⟨rfl, rfl⟩)
                            | (go_at_call 23; refine KB.out.mono ?_; rintro e w5 ⟨rfl, rfl⟩))
                        all_goals
                          go_wp2_with fail
                          go_meet
                          case rel => exact ⟨s, r, hwin, by omega, Lib.hid (HT3d.out.sub (fun k hk => hk.elim)), HB3d⟩
                      · obtain ⟨u, d, rfl, rfl, _, _, _⟩ := ack_in hak
                        have HAK := Lib.hid hak
                        have z0 : (true != true) = false := rfl
                        clear hak
                        go_upto_region 29 with fail
                        go_region_held3 (fun w' => w'.cell? ⟨wr.heap.size, 1, none⟩ = some (.int .i64 u) ∧ w'.cell? ⟨wr.heap.size, 2, none⟩ = some (.int .i64 d)) (first | exact ⟨d1, d2⟩ | exact ⟨f1, f2⟩ | exact ⟨y1, y2⟩ | go_keep)
                          (first
                            | (go_at_call 16; refine (ss_ack_yes u d HT3d.out HAK.out).mono ?_; rintro e w4 ⟨rfl, h4, k4, hb4⟩; have H4 := Lib.hid h4; have HB4 := Lib.hid (HB3d.out.trans hb4); have hE4 := (k4 _ rfl).trans HE3.out; have f1 := cell_cellsN hE4 1 (by simp); have f2 := cell_cellsN hE4 2 (by simp); simp only [List.getElem_toArray, List.getElem_cons_zero, List.getElem_cons_succ] at f1 f2; have HE4 := Lib.hid hE4; clear h4 hb4 k4 hE4)
                            | (go_at_call 23; refine (qs_ack_yes u d (Sep.swap H4.out) HAK.out).mono ?_; rintro e w5 ⟨rfl, h5, k5, hb5⟩; have H5 := Lib.hid (Sep.swap h5); have HB5 := Lib.hid (HB4.out.trans hb5); have hE5 := (k5 _ rfl).trans HE4.out; have y1 := cell_cellsN hE5 1 (by simp); have y2 := cell_cellsN hE5 2 (by simp); simp only [List.getElem_toArray, List.getElem_cons_zero, List.getElem_cons_succ] at y1 y2; clear h5 hb5 k5 hE5))
                        all_goals
                          go_wp2_with fail
                          go_meet
                          case rel => exact ⟨ackS s u d, r, hwin, by omega, Lib.hid (H5.out.sub (fun k hk => hk.elim)), HB5⟩
                    · have p2 : (kind == 2) = false := by simpa using e2
                      clear e2
                      by_cases e3 : kind = 3
                      · subst e3
                        go_upto_region 33 with (go_at_call 20; refine (ss_again HT3.out).mono ?_; rintro e w4 ⟨rfl, h4, _, hb4⟩; have H4 := Lib.hid h4; have HB4 := Lib.hid (HB3.out.trans hb4); clear h4 hb4)
                        obtain ⟨Aq, cq, hq1, _⟩ := qs_cells (Sep.swap H4.out)
                        have y1 := cell_cellsN hq1 1 (by simp)
                        have y2 := cell_cellsN hq1 2 (by simp)
                        have yf := frozen_cellsN hq1 2
                        dsimp only [List.getElem_toArray, List.getElem_cons_zero, List.getElem_cons_succ] at y1 y2
                        obtain ⟨h5, hb5⟩ := qs_again (Sep.swap H4.out)
                        have H5 := Lib.hid (Sep.swap h5)
                        have HB5 := Lib.hid (HB4.out.trans hb5)
                        clear hq1 h5 hb5
                        go_wp2_with fail
                        go_meet
                        case rel => exact ⟨{ s with next := s.base }, r, hwin, by omega, Lib.hid (H5.out.sub (fun k hk => hk.elim)), HB5⟩
                      · have p3 : (kind == 3) = false := by simpa using e3
                        clear e3
                        by_cases e4 : kind = 4
                        · subst e4
                          go_upto_region 36 with fail
                          obtain ⟨W4, hW4⟩ : ∃ W4, W3.alloc (.cells #[.int .i64 a, .slice A2 t.length c2] 29) = W4 := ⟨_, rfl⟩
                          have hb4 : Below W3.heap.size W3 W4 := by rw [← hW4]; exact (Below.refl _ _).alloc (Nat.le_refl _) _
                          have hE4 : W4.heap[W3.heap.size]? = some (.cells #[.int .i64 a, .slice A2 t.length c2] 29 (0, 0)) := by rw [← hW4]; exact new_cellsN _ _ _
                          have hl4 : W3.heap.size < W4.heap.size := by rw [← hW4]; simp
                          have hb4d : Below W3.heap.size W3 W4.drew := hb4.drew
                          have H4 := Lib.hid ((HT3.out.step hb4d).sub (av' := fun k => k = W3.heap.size) (fun k hk => .inr ⟨by omega, by show k < W4.heap.size; omega⟩))
                          have HB4 := Lib.hid (HB3.out.trans (hb4d.mono hs3'))
                          have hs4' := HB4.out.size
                          have a0 := cell_cellsN hE4 0 (by simp)
                          have a1 := cell_cellsN hE4 1 (by simp)
                          dsimp only [List.getElem_toArray, List.getElem_cons_zero, List.getElem_cons_succ] at a0 a1
                          have HE4 := Lib.hid hE4
                          rw [hW4]
                          clear hb4 hE4 hW4 hb4d
                          rcases Bool.eq_false_or_eq_true (hearB r a t.length) with hhr | hhr
                          · have KA := Lib.hid (rr_hear_no a A2 t.length c2 (Fw.Sep.third H4.out) (by omega) hhr)
                            have HHR := Lib.hid hhr
                            have z0 : (false != false) = false := rfl
                            clear hhr
                            go_region_held3 (fun w' => w'.cell? ⟨W3.heap.size, 0, none⟩ = some (.int .i64 a) ∧ w'.cell? ⟨W3.heap.size, 1, none⟩ = some (.slice A2 t.length c2)) (first | exact ⟨a0, a1⟩ | exact ⟨f0, f1⟩ | exact ⟨y0, y1⟩ | go_keep)
                              (first
                                | (go_at_call 10; refine KA.out.mono ?_; rintro e w5 ⟨rfl, hb5⟩; have H5 := Lib.hid (H4.out.step' hb5); have HB5 := Lib.hid (HB4.out.trans (hb5.mono hs4')); have f0 := keep_below hb5 (show W4.drew.cell? ⟨W3.heap.size, 0, none⟩ = _ from a0); have f1 := keep_below hb5 (show W4.drew.cell? ⟨W3.heap.size, 1, none⟩ = _ from a1); have hs5' := HB5.out.size; clear hb5)
                                | (go_at_call 24; refine (qr_hear_no a A2 t.length c2 (Fw.Sep.fourth H5.out) (by omega) HHR.out).mono ?_; rintro e w6 ⟨rfl, hb6⟩; have H6 := Lib.hid (H5.out.step' hb6); have HB6 := Lib.hid (HB5.out.trans (hb6.mono hs5')); have y0 := keep_below hb6 f0; have y1 := keep_below hb6 f1; clear hb6))
                            all_goals
                              go_wp2_with fail
                              go_meet
                              case rel => exact ⟨s, r, hwin, by omega, Lib.hid (H6.out.sub (fun k hk => hk.elim)), HB6⟩
                          · obtain ⟨off, rfl⟩ := hear_off hhr
                            have hin := hear_in hhr
                            have HHR := Lib.hid hhr
                            have z0 : (true != true) = false := rfl
                            have KA := Lib.hid (rr_hear_yes off A2 t.length c2 t rfl (Fw.Sep.third H4.out) hs4' (HCV.out _ HB4.out) hc2 HX.out.2.2.2 (by omega) hhr)
                            clear hhr
                            go_region_held3 (fun w' => w'.cell? ⟨W3.heap.size, 0, none⟩ = some (.int .i64 off) ∧ w'.cell? ⟨W3.heap.size, 1, none⟩ = some (.slice A2 t.length c2)) (first | exact ⟨a0, a1⟩ | exact ⟨f0, f1⟩ | exact ⟨y0, y1⟩ | go_keep)
                              (first
                                | (go_at_call 10; refine KA.out.mono ?_; rintro e w5 ⟨rfl, ⟨b5, h5⟩, k5, hb5⟩; have hh5 := rr_half h5; have HH5 := Lib.hid hh5; have H5 := Lib.hid (Fw.Sep.back h5); have HB5 := Lib.hid (HB4.out.trans hb5); have hE5 := (k5 _ rfl).trans HE4.out; have f0 := cell_cellsN hE5 0 (by simp); have f1 := cell_cellsN hE5 1 (by simp); simp only [List.getElem_toArray, List.getElem_cons_zero, List.getElem_cons_succ] at f0 f1; have HE5 := Lib.hid hE5; have hs5' := HB5.out.size; clear h5 hb5 k5 hE5 hh5)
                                | (go_at_call 24; refine (qr_hear_yes off A2 c2 t b5 (Fw.Sep.fourth H5.out) hs5' (fun V hV => HCV.out V (HB5.out.trans hV)) hc2 HX.out.2.2.2 HHR.out HH5.out).mono ?_; rintro e w6 ⟨rfl, h6, k6, hb6⟩; have H6 := Lib.hid (Fw.Sep.back4 h6); have HB6 := Lib.hid (HB5.out.trans hb6); have hE6 := (k6 _ rfl).trans HE5.out; have y0 := cell_cellsN hE6 0 (by simp); have y1 := cell_cellsN hE6 1 (by simp); simp only [List.getElem_toArray, List.getElem_cons_zero, List.getElem_cons_succ] at y0 y1; clear h6 hb6 k6 hE6))
                            all_goals
                              go_wp2_with fail
                              go_meet
                              case rel => exact ⟨s, { r with b := b5, n := r.n + t.length, G := fillG r.G off t }, hwin, by show r.n + t.length ≤ _; omega, Lib.hid (H6.out.sub (fun k hk => hk.elim)), HB6⟩
                        · have p4 : (kind == 4) = false := by simpa using e4
                          clear e4
                          have hhf := (rr_half (Fw.Sep.third HT3d.out)).1
                          have hrl : readN r a ≤ 1048576 := by have := hhf.2.2.1; unfold readN; omega
                          have HL := Lib.hid (show (readB r a).length = readN r a by
                            unfold readB
                            rw [List.length_take, List.length_drop]
                            unfold readN
                            omega)
                          have z0 : (!true) = false := rfl
                          clear hhf
                          obtain ⟨n, hn⟩ : ∃ n, readN r a = n := ⟨_, rfl⟩
                          rw [hn] at HL hrl
                          clear hn
                          have KA := Lib.hid (rr_read a (Fw.Sep.third HT3d.out) hs3d)
                          go_upto_region 18 with fail
                          go_region_held3 (fun w' => w'.cell? ⟨wr.heap.size, 1, none⟩ = some (.int .i64 a)) (first | exact d1 | exact f1 | exact y1 | exact t1 | go_keep)
                            (first
                              | (go_at_call 13; refine KA.out.mono ?_; rintro e w4 ⟨v4, rfl, hR4, h4, k4, hb4⟩; obtain ⟨A4, c4, hv4, hc4, _⟩ := Kd.R_reads hR4; rw [HL.out] at hv4 hc4; subst hv4; have H4 := Lib.hid (Fw.Sep.back h4); have HR4 := Lib.hid (R_own hR4); have HB4 := Lib.hid (HB3d.out.trans hb4); have hs4' := HB4.out.size; have hE4 := (k4 _ rfl).trans HE3.out; have f1 := cell_cellsN hE4 1 (by simp); simp only [List.getElem_toArray, List.getElem_cons_zero, List.getElem_cons_succ] at f1; have HE4 := Lib.hid hE4; clear h4 hb4 k4 hE4 hR4)
                              | (go_at_call 25; refine (qr_read a (Fw.Sep.fourth H4.out) hs4').mono ?_; rintro e w5 ⟨v5, rfl, hR5, h5, k5, hb5⟩; obtain ⟨A5, c5, hv5, hc5, hC5⟩ := Kd.R_reads hR5; rw [HL.out] at hv5 hc5 hC5; subst hv5; have H5 := Lib.hid (Fw.Sep.back4 h5); have HC5 := Lib.hid hC5; have HR5 := Lib.hid (Kd.R_step (w1 := w5) HR4.out (fun k hk _ => k5 k (.inr hk))); have HB5 := Lib.hid (HB4.out.trans hb5); have hE5 := (k5 _ (.inl rfl)).trans HE4.out; have y1 := cell_cellsN hE5 1 (by simp); simp only [List.getElem_toArray, List.getElem_cons_zero, List.getElem_cons_succ] at y1; clear h5 hb5 k5 hE5 hR5 hC5)
                              | (go_at_call 12; refine (same_n w5 A4 n c4 (readB r a) A5 n c5 (readB r a) HL.out.symm HL.out.symm (by obtain ⟨hnn, _, hC4⟩ := Kd.R_reads' HR5.out; rw [← hnn] at hC4; exact hC4) hc4 HC5.out hc5 (by omega)).mono ?_; rintro e w6 ⟨he, hd⟩; rw [decide_eq_true rfl] at he; subst he; have H6 := Lib.hid (H5.out.step' hd.below); have HB6 := Lib.hid (HB5.out.trans (hd.below.mono HB5.out.size)); have t1 := keep_below hd.below y1; clear hd))
                          all_goals
                            go_wp2_with fail
                            go_meet
                            case rel => exact ⟨s, readR r a, hwin, by show r.n ≤ _; omega, Lib.hid (H6.out.sub (fun k hk => hk.elim)), HB6⟩
            case rest =>
              as_aux_lemma =>
                obtain ⟨s', r', hwin', hrn', HT', HB'⟩ := hcut
                have hs' := HB'.out.size
                have hfn := ss_fine HT'.out
                have hhf := (rr_half (Fw.Sep.third HT'.out)).1
                obtain ⟨f1, f2, f3, f4, f5, f6⟩ := hfn
                obtain ⟨m1, m2, m3, m4, m5, m6, m7⟩ := hhf
                clear f6 m1 m6
                have KL := Lib.hid (ss_left HT'.out)
                have x1 : IntKind.i64.wrap ((s'.l.length : Int) - (s'.base : Int)) = (s'.l.length : Int) - (s'.base : Int) := i64_of (by omega)
                have x2 : IntKind.i64.wrap ((s'.next : Int) - (s'.base : Int)) = (s'.next : Int) - (s'.base : Int) := i64_of (by omega)
                have x3 : IntKind.i64.wrap ((r'.b.length : Int) - (r'.read : Int)) = (r'.b.length : Int) - (r'.read : Int) := i64_of (by omega)
                have x4 : IntKind.i64.wrap ((W : Int) - ((r'.b.length : Int) - (r'.read : Int))) = (W : Int) - ((r'.b.length : Int) - (r'.read : Int)) := i64_of (by omega)
                have z1 : ((s'.l.length : Int) - (s'.base : Int) != (s'.l.length : Int) - (s'.base : Int)) = false := by simp
                have z2 : ((s'.next : Int) - (s'.base : Int) != (s'.next : Int) - (s'.base : Int)) = false := by simp
                have z3 : ((r'.b.length : Int) != (r'.b.length : Int)) = false := by simp
                have z4 : ((W : Int) - ((r'.b.length : Int) - (r'.read : Int)) != (W : Int) - ((r'.b.length : Int) - (r'.read : Int))) = false := by simp
                have KA := Lib.hid (show ∀ V : World, Sep V [sndOb w.heap.size gs s', rsOb w.heap.size q s', rcvOb w.heap.size gr r', rqOb w.heap.size v r'] (fun _ => False) → Calls Try.prog 11 #[.pointer (some ⟨gr, 0, none⟩)] V fun e w' => e = .returned (.tuple #[.int .i64 r'.b.length, .int .i64 ((W : Int) - ((r'.b.length : Int) - (r'.read : Int)))]) ∧ ∃ n, w' = V.drewN n from fun V hV => (rr_ack (Fw.Sep.third hV)).mono fun e w' ⟨he, h⟩ => ⟨by rw [he, hwin'], h⟩)
                go_upto_region 40 with (first
                  | (go_at_call 18; refine KL.out.mono ?_; rintro e w5 ⟨rfl, n5, h5⟩; have H5 := Lib.hid (show Sep w5 [sndOb w.heap.size gs s', rsOb w.heap.size q s', rcvOb w.heap.size gr r', rqOb w.heap.size v r'] (fun _ => False) from by rw [h5]; exact Fw.Sep.drawn HT'.out n5); have HB5 := Lib.hid (show Below w.heap.size w w5 from by rw [h5]; exact below_drN HB'.out n5); clear h5)
                  | (go_at_call 11; refine (KA.out w5 H5.out).mono ?_; rintro e w6 ⟨rfl, n6, h6⟩; have H6 := Lib.hid (show Sep w6 [sndOb w.heap.size gs s', rsOb w.heap.size q s', rcvOb w.heap.size gr r', rqOb w.heap.size v r'] (fun _ => False) from by rw [h6]; exact Fw.Sep.drawn H5.out n6); have HB6 := Lib.hid (show Below w.heap.size w w6 from by rw [h6]; exact below_drN HB5.out n6); clear h6))
                obtain ⟨Aq, cq, hq1, _⟩ := qs_cells (Sep.swap H6.out)
                have y0 := cell_cellsN hq1 0 (by simp)
                have y1 := cell_cellsN hq1 1 (by simp)
                have y2 := cell_cellsN hq1 2 (by simp)
                dsimp only [List.getElem_toArray, List.getElem_cons_zero, List.getElem_cons_succ] at y0 y1 y2
                have y3 := qr_cells (Fw.Sep.fourth H6.out)
                have KE := Lib.hid (show ∀ n, Calls Try.prog 26 #[.pointer (some ⟨v, 0, none⟩)] (w6.drewN n) fun e w' => e = .returned (.int .i64 r'.b.length) ∧ w' = w6.drewN n from fun n => (qr_end (Fw.Sep.fourth (Fw.Sep.drawn H6.out n))).mono fun e w' ⟨h1, h2⟩ => ⟨h1, h2.symm⟩)
                clear hq1
                go_quiet ((go_at_call 26; exact Calls.quiet_of_same (KE.out _)))
                go_wp2
                go_roundg (gk - 1)
                case measure => omega
                case rel => exact ⟨i + 1, s', r', by go_num, by omega, hwin', hrn', Lib.hid (Fw.Sep.drawn H6.out nq), Lib.hid (below_drN HB6.out nq)⟩
          · have b2 : decide ((i : Int) < 60) = false := decide_eq_false (by omega)
            go_wp2
            go_ret
            exact ⟨rfl, HB.out⟩
        · have b0 : decide ((i : Int) < (l.length : Int)) = false := decide_eq_false (by omega)
          go_wp2
          go_ret
          exact ⟨rfl, HB.out⟩
theorem plays_row (x : Int) (A : Option Addr) (c : Nat) (l : List Step) (w : World) (hx : (Lit.int .i64 x).wf = true) (hr : dDo.C w A l.length l) (hc : l.length ≤ c) (hb : l.length * 48 ≤ 140737488351232) (hok : ∀ x ∈ l, okDo x) :
    Calls Try.prog 6 #[.int .i64 x, .slice A l.length c] w fun e w' => e = .returned (.bool true) ∧ Below w.heap.size w w' := plays_calls w x A c l (wf_bd hx (by decide) (by decide)) hr hc (by omega) hok
end Go.Proofs.Ytgkcncdanhkkoaa.Fw
