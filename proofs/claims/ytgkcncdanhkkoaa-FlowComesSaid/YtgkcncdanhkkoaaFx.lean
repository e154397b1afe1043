/-
  FlowComes behind its guards: the walk: it returns true, and nothing that lay has turned. Condition: the text is bytes, at most 3000; the ways are rows of at most 60.
-/
import Derived.Test.YtgkcncdanhkkoaaFm
import Derived.Deep.CutBlock
namespace Go.Proofs.Ytgkcncdanhkkoaa.Fw
open Go.RowKit Go.Maps Go.Proofs.Ytgkcncdanhkkoaa.Sp Go.Proofs.YtgkcncdanhkkoaaW.PrintWords Go.Proofs.YtgkcncdanhkkoaaW.PrintLast Go.Proofs.YtgkcncdanhkkoaaW.PrintMore
set_option linter.unusedVariables false
set_option linter.unusedSimpArgs false
/-- x[:n]. -/
theorem take_cut (A : Option Addr) (c : Nat) (xs : List Int) (n : Nat) (hm : n ≤ xs.length) (hc : xs.length ≤ c) :
    (∀ W : World, (Instr.slice 22 (.slice A xs.length c) none (some (.int .i64 (n : Int))) none).run Try.prog W = .ok (.slice A n c) W) ∧
      ∀ w : World, (Kd.int .u8).C w A xs.length xs → (Kd.int .u8).C w A n (xs.take n) := by
  obtain ⟨i0, hi0, _, hsz0, _⟩ := info_parts info8
  obtain ⟨h1, h2, h3⟩ := print_take_of (P := Try.prog) (Value.int .u8) 0 22 5 .i64 Try.underlying22 hi0 hsz0 A c xs (n : Int) (by omega) (by omega) hc
  have e3 : (xs.take n).length = n := by rw [List.length_take]; omega
  rw [Int.toNat_natCast, e3] at h1
  rw [Int.toNat_natCast, e3] at h2
  exact ⟨h1, fun w h => Kd.C_of_reads (h1 := fun _ => rfl) (h2 w (Kd.reads_of_C h))⟩
/-- What holds ahead of a round: e bytes are read, far were sent. -/
structure Ahead (data : List Int) (Wn ρ e far n : Nat) (G : Nat → Option Int) (L : List (Int × List Int)) : Prop where
  ef : e ≤ far
  fl : far ≤ data.length
  m : Matches data far G
  up : Upto G e
  parts : ∀ p ∈ L, PartOk data far p
  ll : L.length ≤ ρ
  nn : n ≤ 1500 * ρ
  late : 40 ≤ ρ → min data.length (50 * (ρ - 40)) ≤ e
/-- What holds within a round: next is the sender's. -/
structure Mid (data : List Int) (ρ e next en far : Nat) (G0 G : Nat → Option Int) (L : List (Int × List Int)) : Prop where
  ef : e ≤ far
  fl : far ≤ data.length
  nf : next ≤ far
  m : Matches data far G
  kp : Keeps G0 G
  up : 40 ≤ ρ → next = en → Upto G en
  parts : ∀ p ∈ L, PartOk data far p
theorem mid_start {data : List Int} {Wn ρ e en far n : Nat} {G : Nat → Option Int} {L : List (Int × List Int)} (h : Ahead data Wn ρ e far n G L) : Mid data ρ e e en far G G L :=
  ⟨h.ef, h.fl, h.ef, h.m, Keeps.refl _, fun _ he => he ▸ h.up, h.parts⟩
/-- The part goes astray. -/
theorem mid_lost {data : List Int} {ρ e en far : Nat} {G0 G : Nat → Option Int} {L : List (Int × List Int)} (h : Mid data ρ e e en far G0 G L) (hr : ρ < 40) (h1 : e < en) (h2 : en ≤ data.length) (h3 : en - e ≤ 500) :
    Mid data ρ e en en (max far en) G0 G (L ++ [((e : Int), (data.drop e).take (en - e))]) := by
  refine ⟨Nat.le_trans h.ef (Nat.le_max_left _ _), Nat.max_le.2 ⟨h.fl, h2⟩, Nat.le_max_right _ _, matches_far h.m (Nat.le_max_left _ _), h.kp, fun h4 => by omega, fun p hp => ?_⟩
  rcases List.mem_append.1 hp with hp | hp
  · exact partOk_far (h.parts p hp) (Nat.le_max_left _ _)
  · rw [List.mem_singleton.1 hp]
    exact ⟨e, en - e, rfl, by omega, h3, by omega⟩
/-- The part is heard. -/
theorem mid_heard {data : List Int} {ρ e en far : Nat} {G0 G : Nat → Option Int} {L : List (Int × List Int)} (h : Mid data ρ e e en far G0 G L) (h0 : Upto G0 e) (h1 : e < en) (h2 : en ≤ data.length) :
    Mid data ρ e en en (max far en) G0 (fillG G e ((data.drop e).take (en - e))) L := by
  refine ⟨Nat.le_trans h.ef (Nat.le_max_left _ _), Nat.max_le.2 ⟨h.fl, h2⟩, Nat.le_max_right _ _, matches_fill (matches_far h.m (Nat.le_max_left _ _)) (by omega), h.kp.trans (keeps_fill _ _ _), fun _ _ => ?_, fun p hp => partOk_far (h.parts p hp) (Nat.le_max_left _ _)⟩
  have h3 := upto_fill (data := data) (m := en - e) (h0.keeps h.kp) (by omega)
  rw [show e + (en - e) = en by omega] at h3
  exact h3
/-- A part that was sent is heard (once more). -/
theorem mid_again {data : List Int} {ρ e next en far : Nat} {G0 G : Nat → Option Int} {L : List (Int × List Int)} (h : Mid data ρ e next en far G0 G L) {o m : Nat} (hm : o + m ≤ far) :
    Mid data ρ e next en far G0 (fillG G o ((data.drop o).take m)) L :=
  ⟨h.ef, h.fl, h.nf, matches_fill h.m hm, h.kp.trans (keeps_fill _ _ _), fun h1 h2 => (h.up h1 h2).keeps (keeps_fill _ _ _), h.parts⟩
set_option maxRecDepth 100000 in
set_option maxHeartbeats 8000000 in
theorem comes_in (w : World) (A0 : Option Addr) (c0 : Nat) (data : List Int) (x : Int) (Al At Aa : Option Addr) (cl ct ca : Nat) (lost twice : List Bool) (lat : List Int) (hx : 0 ≤ x ∧ x ≤ 255)
    (hr0 : Kd.C (Kd.int .u8) w A0 data.length data) (hc0 : data.length ≤ c0) (hb0 : ∀ b ∈ data, 0 ≤ b ∧ b ≤ 255) (h0 : data.length ≤ 3000)
    (hrl : Kd.bool.C w Al lost.length lost) (hl : lost.length ≤ 60) (hrt : Kd.bool.C w At twice.length twice) (ht : twice.length ≤ 60) (hra : Kd.C (Kd.int .u8) w Aa lat.length lat) (ha : lat.length ≤ 60) (hba : ∀ b ∈ lat, 0 ≤ b ∧ b ≤ 255) :
    Calls Try.prog 7 #[.slice A0 data.length c0, .int .u8 x, .agg #[.slice Al lost.length cl, .slice At twice.length ct, .slice Aa lat.length ca]] w fun e w' => e = .returned (.bool true) ∧ Below w.heap.size w w' := by
  have q25 : ∀ (w : World) (a : Addr), (binOp .eql 36 (.pointer (some a)) (.pointer none)).run Try.prog w = .ok (.bool false) w := fun w a => by kernel_rfl
  have q26 : ∀ (w : World) (a : Addr), (binOp .eql 24 (.pointer (some a)) (.pointer none)).run Try.prog w = .ok (.bool false) w := fun w a => by kernel_rfl
  obtain ⟨Wn, hW⟩ : ∃ Wn : Nat, 50 + x = (Wn : Int) := ⟨(50 + x).toNat, by omega⟩
  have hW2 : 50 ≤ Wn ∧ Wn ≤ 305 := by omega
  have g1 : decide (3000 < (data.length : Int)) = false := decide_eq_false (by omega)
  have g2 : decide (60 < (lost.length : Int)) = false := decide_eq_false (by omega)
  have g3 : decide (60 < (twice.length : Int)) = false := decide_eq_false (by omega)
  have g4 : decide (60 < (lat.length : Int)) = false := decide_eq_false (by omega)
  obtain ⟨W0, hW0⟩ : ∃ W0, w.alloc (.cells #[.slice Al lost.length cl, .slice At twice.length ct, .slice Aa lat.length ca] 58) = W0 := ⟨_, rfl⟩
  have hbW : Below w.heap.size w W0 := by rw [← hW0]; exact (Below.refl _ _).alloc (Nat.le_refl _) _
  have hE0 : W0.heap[w.heap.size]? = some (.cells #[.slice Al lost.length cl, .slice At twice.length ct, .slice Aa lat.length ca] 58 (0, 0)) := by rw [← hW0]; exact new_cellsN _ _ _
  have hs0 : W0.heap.size = w.heap.size + 1 := by rw [← hW0]; simp
  have HBW := Lib.hid hbW
  have HR0 := Lib.hid (Kd.C_below hr0 hbW)
  have HRL := Lib.hid (Kd.C_below hrl hbW)
  have HRT := Lib.hid (Kd.C_below hrt hbW)
  have HRA := Lib.hid (Kd.C_below hra hbW)
  have HB0 := Lib.hid hb0
  have HBA := Lib.hid hba
  have HA := Lib.hid (awake_calls W0)
  have EW := Lib.hid (show writeS S0 data = ⟨data, 0, 0, 0, 0⟩ by
    unfold writeS writeN S0
    rw [List.nil_append, List.take_of_length_le (by show data.length ≤ min data.length (1048576 - 0); omega)])
  have EN := Lib.hid (show writeN S0 data = data.length by unfold writeN S0; show min data.length (1048576 - 0) = _; omega)
  -- the box of the way, in any later world
  have HWAY := Lib.hid (show ∀ V : World, Below W0.heap.size W0 V → V.cell? ⟨w.heap.size, 0, none⟩ = some (.slice Al lost.length cl) ∧ V.cell? ⟨w.heap.size, 1, none⟩ = some (.slice At twice.length ct) ∧ V.cell? ⟨w.heap.size, 2, none⟩ = some (.slice Aa lat.length ca) from fun V hV => by
    have h := (hV.block w.heap.size (by omega)).trans hE0
    exact ⟨cell_cellsN h 0 (by simp), cell_cellsN h 1 (by simp), cell_cellsN h 2 (by simp)⟩)
  have d0 := (HWAY.out W0 (Below.refl _ _)).1
  have d1 := (HWAY.out W0 (Below.refl _ _)).2.1
  have d2 := (HWAY.out W0 (Below.refl _ _)).2.2
  clear hr0 hrl hrt hra hb0 hba hbW hE0
  go_enter Try.func7, Try.ntmps7
  go_upto_region 3 with (go_at_call 8; refine HA.out.mono ?_; rintro e w1 ⟨rfl, hb1⟩; have HW1 := Lib.hid hb1; have hs1 := hb1.size; clear hb1)
  obtain ⟨e0, e1, e2⟩ := HWAY.out w1 HW1.out
  clear hW0 d0 d1 d2
  go_upto_region 9 with (first
    | (go_at_call 14; refine (ss_new (base := W0.heap.size) (w := w1) (Xs := []) (av := fun _ => False) (fun k hk => hk.elim) hs1).mono ?_; rintro e w2 ⟨gs, rfl, h2, hb2⟩; have H2 := Lib.hid h2; have HW2 := Lib.hid (HW1.out.trans (hb2.mono hs1)); have hs2 := HW2.out.size; clear h2 hb2)
    | (go_at_call 9; refine (rr_new Wn (by omega) (by omega) H2.out hs2).mono ?_; rintro e w3 ⟨gr, rfl, h3, hb3⟩; have H3 := Lib.hid (Sep.swap h3); have HW3 := Lib.hid (HW2.out.trans (hb3.mono hs2)); have hs3 := HW3.out.size; clear h3 hb3)
    | (go_at_call 15; refine (ss_write A0 data.length c0 data rfl H3.out hs3 (Kd.C_below HR0.out HW3.out) hc0 HB0.out (by omega)).mono ?_; rintro e w4 ⟨rfl, h4, _, hb4⟩; rw [EW.out] at h4; rw [EN.out]; have H4 := Lib.hid h4; have HW4 := Lib.hid (HW3.out.trans hb4); have hs4 := HW4.out.size; clear h4 hb4))
  clear g1 g2 g3 g4 e0 e1 e2 hW
  go_wp2
  go_loopg [10, 11, 12, 13] (200 : Nat) (fun kq v10 v11 v12 v13 wr => ∃ (ρ nn e far bs lim n : Nat) (G : Nat → Option Int) (L : List (Int × List Int)), v13 = .int .i64 ρ ∧ v12 = .int .i64 nn ∧ ρ + kq = 200 ∧ ρ ≤ 100 ∧ nn ≤ ρ ∧ bs ≤ e ∧ lim ≤ e + Wn ∧ Ahead data Wn ρ e far n G L ∧
      Hid (Sep wr [sndOb W0.heap.size gs ⟨data, bs, bs, far, lim⟩, rcvOb W0.heap.size gr ⟨Wn, data.take e, e, n, G⟩, lateOb W0.heap.size v11 L, rowOb W0.heap.size v10 (data.take e)] (fun _ => False)) ∧ Hid (Below W0.heap.size W0 wr))
  case atStart => exact ⟨0, 0, 0, 0, 0, 0, 0, fun _ => none, [], rfl, rfl, rfl, by omega, by omega, by omega, by omega, ⟨by omega, by omega, matches_none _ _, fun i hi => by omega, by simp, by simp, by omega, by omega⟩, Lib.hid (Fw.Sep.back4 (row_new (Fw.Sep.back (late_new H4.out)))), HW4⟩
  case round =>
    obtain ⟨ρ, nn, e, far, bs, lim, n, G, L, rfl, rfl, hq, hρ, hnn, hbs, hlim, hA, HS, HB⟩ := hrel
    have b0 : decide ((ρ : Int) < 200) = true := decide_eq_true (by omega)
    have hws := HB.out.size
    have hlm : (data.take e).length = e := by rw [List.length_take]; have := hA.ef; have := hA.fl; omega
    have hef := hA.ef
    have hfl := hA.fl
    have KA := Lib.hid (show Calls Try.prog 11 #[.pointer (some ⟨gr, 0, none⟩)] wr fun e' w' => e' = .returned (.tuple #[.int .i64 e, .int .i64 Wn]) ∧ ∃ n, w' = wr.drewN n from (dd_ack HS.out).mono fun e' w' ⟨he, h⟩ => ⟨by rw [he]; dsimp only; rw [hlm, Int.sub_self, Int.sub_zero], h⟩)
    have EK := Lib.hid (show ackS ⟨data, bs, bs, far, lim⟩ e Wn = ⟨data, e, e, far, e + Wn⟩ by
      unfold ackS
      dsimp only
      rw [Nat.max_eq_right hbs, Nat.max_eq_right hlim])
    have HK := Lib.hid (show ∀ V : World, Sep V [sndOb W0.heap.size gs ⟨data, bs, bs, far, lim⟩, rcvOb W0.heap.size gr ⟨Wn, data.take e, e, n, G⟩, lateOb W0.heap.size u11 L, rowOb W0.heap.size u10 (data.take e)] (fun _ => False) → Calls Try.prog 16 #[.pointer (some ⟨gs, 0, none⟩), .int .i64 e, .int .i64 Wn] V fun e' w' => e' = .returned (.bool true) ∧ Sep w' [sndOb W0.heap.size gs ⟨data, e, e, far, e + Wn⟩, rcvOb W0.heap.size gr ⟨Wn, data.take e, e, n, G⟩, lateOb W0.heap.size u11 L, rowOb W0.heap.size u10 (data.take e)] (fun _ => False) ∧ Below W0.heap.size V w' from fun V hV => (ss_ack_yes e Wn hV (by
      unfold ackB
      dsimp only
      rw [decide_eq_false (by omega), decide_eq_false (by omega), decide_eq_false (by omega), decide_eq_false (by omega)]
      rfl)).mono fun e' w' ⟨he, h1, _, h2⟩ => ⟨he, by rw [EK.out] at h1; exact h1, h2⟩)
    have H9A := Lib.hid hA
    clear hA
    go_upto_region 18 with (first
      | (go_at_call 11; refine KA.out.mono ?_; rintro e' w5 ⟨rfl, n5, h5⟩; have H5 := Lib.hid (show Sep w5 [sndOb W0.heap.size gs ⟨data, bs, bs, far, lim⟩, rcvOb W0.heap.size gr ⟨Wn, data.take e, e, n, G⟩, lateOb W0.heap.size u11 L, rowOb W0.heap.size u10 (data.take e)] (fun _ => False) from by rw [h5]; exact Fw.Sep.drawn HS.out n5); have HB5 := Lib.hid (show Below W0.heap.size W0 w5 from by rw [h5]; exact below_drN HB.out n5); clear h5)
      | (go_at_call 16; refine (HK.out w5 H5.out).mono ?_; rintro e' w6 ⟨rfl, h6, hb6⟩; have H6 := Lib.hid h6; have HB6 := Lib.hid (HB5.out.trans hb6); clear h6 hb6))
    have hs6 := HB6.out.size
    clear b0
    obtain ⟨en, hen⟩ : ∃ en, min data.length (e + Wn) = en := ⟨_, rfl⟩
    have hen2 : en ≤ data.length ∧ en ≤ e + Wn ∧ e ≤ en := by omega
    go_upto_block 2 with fail
    go_cut [11, 12] (fun v11 v12 wx => ∃ (nn2 far2 n2 : Nat) (b2 : List Int) (G2 : Nat → Option Int) (L2 : List (Int × List Int)), v12 = .int .i64 nn2 ∧ nn2 ≤ nn + 1 ∧ n2 ≤ n + 1000 ∧ L2.length ≤ L.length + 1 ∧ Mid data ρ e en en far2 G G2 L2 ∧
      Hid (Sep wx [sndOb W0.heap.size gs ⟨data, e, en, far2, e + Wn⟩, rcvOb W0.heap.size gr ⟨Wn, b2, e, n2, G2⟩, lateOb W0.heap.size v11 L2, rowOb W0.heap.size u10 (data.take e)] (fun _ => False)) ∧ Hid (Below W0.heap.size W0 wx))
    case first =>
      go_wp2_with fail
      go_loopg [11, 12, 16] (20 : Nat) (fun kq v11 v12 v16 wx => ∃ (k nn2 next far2 n2 : Nat) (b2 : List Int) (G2 : Nat → Option Int) (L2 : List (Int × List Int)), v16 = .int .i64 k ∧ v12 = .int .i64 nn2 ∧ k + kq = 20 ∧ ((k = 0 ∧ next = e) ∨ (k = 1 ∧ next = en)) ∧ nn2 ≤ nn + k ∧ n2 ≤ n + 1000 * k ∧ L2.length ≤ L.length + k ∧ Mid data ρ e next en far2 G G2 L2 ∧
        Hid (Sep wx [sndOb W0.heap.size gs ⟨data, e, next, far2, e + Wn⟩, rcvOb W0.heap.size gr ⟨Wn, b2, e, n2, G2⟩, lateOb W0.heap.size v11 L2, rowOb W0.heap.size u10 (data.take e)] (fun _ => False)) ∧ Hid (Below W0.heap.size W0 wx))
      case atStart => exact ⟨0, nn, e, far, n, _, G, L, rfl, rfl, by omega, .inl ⟨rfl, rfl⟩, by omega, by omega, by omega, mid_start H9A.out, H6, HB6⟩
      case round =>
        obtain ⟨k, nn2, next, far2, n2, b2, G2, L2, rfl, rfl, hkq, hkn, hnn2, hn2, hL2, hM, HSi, HBi⟩ := hrel
        have c0 : decide ((k : Int) < 20) = true := decide_eq_true (by omega)
        have hsi := HBi.out.size
        by_cases hnx : next < en
        · obtain ⟨rfl, rfl⟩ : k = 0 ∧ next = e := by omega
          obtain ⟨n1, hn1⟩ : ∃ n1, en - next = n1 := ⟨_, rfl⟩
          have hnE : nextE ⟨data, next, next, far2, next + Wn⟩ = en := by show min (next + 500) (min data.length (next + Wn)) = en; omega
          have hl1 : ((data.drop next).take n1).length = n1 := by rw [List.length_take, List.length_drop]; omega
          have hn1b : 1 ≤ n1 ∧ n1 ≤ 305 ∧ next + n1 = en := by omega
          have KN := Lib.hid (show Calls Try.prog 17 #[.pointer (some ⟨gs, 0, none⟩)] wr fun e' w' => ∃ v, e' = .returned (.tuple #[.agg #[.int .i64 next, v], .bool true]) ∧ (Kd.int .u8).R 5 w' wr.heap.size (fun _ => True) v ((data.drop next).take n1) ∧
              Sep w' [sndOb W0.heap.size gs ⟨data, next, en, max far2 en, next + Wn⟩, rcvOb W0.heap.size gr ⟨Wn, b2, next, n2, G2⟩, lateOb W0.heap.size u11 L2, rowOb W0.heap.size u10 (data.take next)] (fun k => wr.heap.size ≤ k ∧ k < w'.heap.size) ∧ Below W0.heap.size wr w' from (ss_next_yes HSi.out (by rw [hnE]; exact hnx)).mono fun e' w' ⟨v, he, hR, hS, _, hB⟩ => ⟨v, he, by
                unfold nextB at hR
                rw [hnE] at hR
                dsimp only at hR
                rw [hn1] at hR
                exact hR, by
                have e2 : nextS ⟨data, next, next, far2, next + Wn⟩ = ⟨data, next, en, max far2 en, next + Wn⟩ := by
                  unfold nextS
                  rw [hnE]
                rw [e2] at hS
                exact hS.sub (fun k hk => .inr hk), hB⟩)
          go_upto_region 22 with (go_at_call 17; refine KN.out.mono ?_; rintro e' w7 ⟨v7, rfl, hR7, h7, hb7⟩; obtain ⟨A7, c7, hv7, hc7, hC7⟩ := Kd.R_reads hR7; rw [hl1] at hv7 hc7 hC7; have H7 := Lib.hid h7; have HR7 := Lib.hid hR7; have HV7 := Lib.hid hv7; have HC7 := Lib.hid hC7; have HB7 := Lib.hid (HBi.out.trans hb7); have hs67 := hb7.size; clear h7 hR7 hC7 hb7; rw [HV7.out])
          obtain ⟨W8, hW8⟩ : ∃ W8, w7.alloc (.cells #[.int .i64 next, .slice A7 n1 c7] 29) = W8 := ⟨_, rfl⟩
          have hb8 : Below w7.heap.size w7 W8 := by rw [← hW8]; exact (Below.refl _ _).alloc (Nat.le_refl _) _
          have hE8 : W8.heap[w7.heap.size]? = some (.cells #[.int .i64 next, .slice A7 n1 c7] 29 (0, 0)) := by rw [← hW8]; exact new_cellsN _ _ _
          have hs8 : w7.heap.size < W8.heap.size ∧ W8.heap.size ≤ w7.heap.size + 1 := by rw [← hW8]; simp
          have p0 := cell_cellsN hE8 0 (by simp)
          have p1 := cell_cellsN hE8 1 (by simp)
          dsimp only [List.getElem_toArray, List.getElem_cons_zero, List.getElem_cons_succ] at p0 p1
          have hs7 := HB7.out.size
          have HB8 := Lib.hid (HB7.out.trans (hb8.mono hs7))
          have hs8b := HB8.out.size
          have H8 := Lib.hid ((H7.out.step hb8).sub (av' := fun k => wr.heap.size ≤ k ∧ k < W8.heap.size) (fun k hk => by
            by_cases hl : k < w7.heap.size
            · exact .inl ⟨hk.1, hl⟩
            · exact .inr ⟨by omega, hk.2⟩))
          have HR8 := Lib.hid (show (Kd.int .u8).R 5 W8 W0.heap.size (fun k => wr.heap.size ≤ k ∧ k < W8.heap.size) v7 ((data.drop next).take n1) from Kd.R_lower (R_own (Kd.R_below HR7.out hb8)) (by omega))
          have HE8 := Lib.hid hE8
          rw [hW8]
          clear hb8 hE8 hW8 c0
          obtain ⟨y0, y1, y2⟩ := HWAY.out W8 HB8.out
          have KT := Lib.hid (show ∀ V : World, Below W0.heap.size W0 V → Calls Try.prog 27 #[.slice At twice.length ct, .int .i64 ((nn2 + 1 : Nat) : Int)] V fun e' w' => (e' = .returned (.bool true) ∨ e' = .returned (.bool false)) ∧ w' = V from fun V hV => at_calls V At ct twice (nn2 + 1) (Kd.C_below HRT.out hV) (by omega) (by omega))
          have KL := Lib.hid (at_calls W8 Al cl lost (nn2 + 1) (Kd.C_below HRL.out HB8.out) (by omega) (by omega))
          have x1 : IntKind.i64.wrap ((nn2 : Int) + 1) = ((nn2 + 1 : Nat) : Int) := by rw [i64_of (by omega)]; omega
          go_upto_region 24 with fail
          go_cut [104] (fun v104 wx => ∃ bb : Bool, v104 = .bool bb ∧ (bb = true → ρ < 40) ∧ wx = W8)
          case first =>
            by_cases h40 : ρ < 40
            · have z0 : decide ((ρ : Int) < 40) = true := decide_eq_true (by omega)
              go_wp2_with (go_at_call 27; refine KL.out.mono ?_; rintro e' w9 ⟨rfl | rfl, rfl⟩)
              all_goals
                go_meet
                case rel => exact ⟨_, rfl, fun _ => h40, rfl⟩
            · have z0 : decide ((ρ : Int) < 40) = false := decide_eq_false (by omega)
              go_wp2_with fail
              go_meet
              case rel => exact ⟨false, rfl, (fun h => by cases h), rfl⟩
          case rest =>
            obtain ⟨bb, rfl, hbb, rfl⟩ := hcut
            cases bb with
            | true =>
              have h40 := hbb rfl
              obtain ⟨A9, c9, hu9⟩ := late_val (Fw.Sep.third H8.out)
              subst hu9
              obtain ⟨okL, hRL, hML, hokL, hfL, htL⟩ := late_open (o := (next : Int)) (Fw.Sep.third H8.out) HR8.out
              have hv7 := HV7.out
              subst hv7
              have HRL9 := Lib.hid hRL
              have HML9 := Lib.hid hML
              have HOK9 := Lib.hid hokL
              have HF9 := Lib.hid hfL
              have HT9 := Lib.hid htL
              have hll : L2.length ≤ 1000 := by have := H9A.out.ll; omega
              clear hRL hML hokL hfL htL
              go_wp2_with ((with_reducible refine gate_builtin (b := .append) (xs := #[.tmp 105, .tmp 107]) rfl ?_); at_builtin; refine Kd.R_append dP (w0 := W0) W0.heap.size rfl (.tmp 105) (.tmp 107) 59 29 (.agg #[.int .i64 0, .slice none 0 0]) 32 rfl Try.underlying59 infoP rfl (by decide) (by decide) (.slice A9 L2.length c9) L2 ((next : Int), (data.drop next).take n1) [.int .i64 next, .slice A7 n1 c7] okL _ rfl rfl HML9.out HOK9.out HF9.out HRL9.out HB8.out hs8b (by omega) ?_; intro v11 w11 ho11 hb11 hg11 hat11; have H11 := Lib.hid (Fw.Sep.back (HT9.out v11 w11 ho11 hg11)); have HB11 := Lib.hid hb11; clear ho11 hb11 hg11 hat11)
              go_roundg (gk - 1)
              case measure => omega
              case rel =>
                refine ⟨1, nn2 + 1, en, max far2 en, n2, b2, G2, L2 ++ [((next : Int), (data.drop next).take n1)], rfl, by go_num, by omega, .inr ⟨rfl, rfl⟩, by omega, by omega, by rw [List.length_append, List.length_singleton]; omega, ?_, H11, HB11⟩
                rw [← hn1]
                exact mid_lost hM h40 hnx hen2.1 (by omega)
            | false =>
              have hv7 := HV7.out
              have HH1 := Lib.hid (show hearB ⟨Wn, b2, next, n2, G2⟩ next n1 = false by
                unfold hearB
                dsimp only
                rw [decide_eq_false (by omega), decide_eq_false (by omega), decide_eq_false (by omega), decide_eq_false (by omega), decide_eq_false (by omega)]
                rfl)
              have HBD := Lib.hid (show ∀ z ∈ (data.drop next).take n1, 0 ≤ z ∧ z ≤ 255 from fun z hz => HB0.out z (List.mem_of_mem_drop (List.mem_of_mem_take hz)))
              have hnb : n2 + 1000 ≤ 1000000 := by have := H9A.out.nn; omega
              have HCV := Lib.hid (show ∀ V : World, (∀ b, wr.heap.size ≤ b ∧ b < wc.heap.size → V.heap[b]? = wc.heap[b]?) → (Kd.int .u8).C V A7 n1 ((data.drop next).take n1) ∧ V.heap[w7.heap.size]? = some (.cells #[.int .i64 next, .slice A7 n1 c7] 29 (0, 0)) from fun V hV => by
                have h := Kd.R_step (w1 := V) HR8.out (fun k hk _ => hV k hk)
                rw [HV7.out] at h
                obtain ⟨h1, _, h3⟩ := Kd.R_reads' h
                rw [← h1] at h3
                exact ⟨h3, (hV _ ⟨by omega, by omega⟩).trans HE8.out⟩)
              have KH1 := Lib.hid (dd_hear_yes next A7 n1 c7 ((data.drop next).take n1) hl1.symm H8.out hs8b (HCV.out wc (fun _ _ => rfl)).1 hc7 HBD.out (by show n2 + 500 ≤ _; omega) HH1.out)
              have HL1 := Lib.hid hl1
              clear hv7
              go_wp2_with (first
                | (go_at_call 10; (with_reducible refine KH1.out.mono ?_); rintro e' w9 ⟨rfl, ⟨b9, h9⟩, k9, hb9⟩; have H9 := Lib.hid h9; have HB9 := Lib.hid (HB8.out.trans hb9); have hs9 := HB9.out.size; obtain ⟨hc9, he9⟩ := HCV.out w9 k9; have HC9 := Lib.hid hc9; have p2 := cell_cellsN he9 0 (by simp); have p3 := cell_cellsN he9 1 (by simp); dsimp only [List.getElem_toArray, List.getElem_cons_zero, List.getElem_cons_succ] at p2 p3; obtain ⟨t0, t1, t2⟩ := HWAY.out w9 HB9.out; clear h9 k9 hb9 hc9 he9)
                | (go_at_call 27; refine (KT.out w9 HB9.out).mono ?_; rintro e' w10 ⟨rfl | rfl, rfl⟩)
                | (go_at_call 10; refine (dd_hear_yes next A7 n1 c7 ((data.drop next).take n1) HL1.out.symm H9.out hs9 HC9.out hc7 HBD.out (by show n2 + _ + 500 ≤ _; rw [HL1.out]; omega) HH1.out).mono ?_; rintro e' w11 ⟨rfl, ⟨b11, h11⟩, _, hb11⟩; have H11 := Lib.hid (h11.sub (av' := fun _ => False) (fun k hk => hk.elim)); have HB11 := Lib.hid (HB9.out.trans hb11); clear h11 hb11))
              · go_roundg (gk - 1)
                case measure => omega
                case rel =>
                  refine ⟨1, nn2 + 1, en, max far2 en, n2 + ((data.drop next).take n1).length + ((data.drop next).take n1).length, b11, _, L2, rfl, by go_num, by omega, .inr ⟨rfl, rfl⟩, by omega, by rw [HL1.out]; omega, by omega, ?_, H11, HB11⟩
                  rw [← hn1]
                  exact mid_again (mid_heard hM H9A.out.up hnx hen2.1) (by omega)
              · go_roundg (gk - 1)
                case measure => omega
                case rel =>
                  refine ⟨1, nn2 + 1, en, max far2 en, n2 + ((data.drop next).take n1).length, b9, _, L2, rfl, by go_num, by omega, .inr ⟨rfl, rfl⟩, by omega, by rw [HL1.out]; omega, by omega, ?_, Lib.hid (H9.out.sub (fun k hk => hk.elim)), HB9⟩
                  rw [← hn1]
                  exact mid_heard hM H9A.out.up hnx hen2.1
        · have hne : next = en := by omega
          subst hne
          have KN := Lib.hid (ss_next_no HSi.out (by show min (next + 500) (min data.length (e + Wn)) ≤ next; omega))
          go_wp2_with (go_at_call 17; refine KN.out.mono ?_; rintro e' w7 ⟨rfl, hb7⟩; have HB7 := Lib.hid (hb7.trans ((Below.refl wr.heap.size w7).alloc hb7.size (.cells #[.int .i64 0, .slice none 0 0] 29))); clear hb7)
          go_meet
          case rel => exact ⟨nn2, far2, n2, b2, G2, L2, rfl, by omega, by omega, by omega, hM, Lib.hid (HSi.out.step' HB7.out), Lib.hid (HBi.out.trans (HB7.out.mono hsi))⟩
    case rest =>
      obtain ⟨nn2, far2, n2, b2, G2, L2, rfl, hnn2, hn2, hL2, hM, HSr, HBr⟩ := hcut
      have hsr := HBr.out.size
      obtain ⟨A9, c9, hu9⟩ := late_val (Fw.Sep.third HSr.out)
      subst hu9
      obtain ⟨y0, y1, y2⟩ := HWAY.out wc HBr.out
      have hLb : L2.length ≤ 201 := by have := H9A.out.ll; omega
      have hnb : n + 1000 ≤ 1000000 := by have := H9A.out.nn; omega
      go_upto_region 29 with fail
      go_cut [127] (fun v127 wx => ∃ bb : Bool, v127 = .bool bb ∧ (bb = true → 0 < L2.length ∧ 0 < lat.length) ∧ wx = wc)
      case first =>
        by_cases h1 : 0 < L2.length
        · have z1 : decide (0 < (L2.length : Int)) = true := decide_eq_true (by omega)
          have z1n : decide (0 < L2.length) = true := decide_eq_true h1
          by_cases h2 : 0 < lat.length
          · have z2 : decide (0 < (lat.length : Int)) = true := decide_eq_true (by omega)
            have z2n : decide (0 < lat.length) = true := decide_eq_true h2
            go_wp2_with fail
            go_meet
            case rel => exact ⟨true, rfl, fun _ => ⟨h1, h2⟩, rfl⟩
          · have z2 : decide (0 < (lat.length : Int)) = false := decide_eq_false (by omega)
            have z2n : decide (0 < lat.length) = false := decide_eq_false h2
            go_wp2_with fail
            go_meet
            case rel => exact ⟨false, rfl, (fun h => by cases h), rfl⟩
        · have z1 : decide (0 < (L2.length : Int)) = false := decide_eq_false (by omega)
          have z1n : decide (0 < L2.length) = false := decide_eq_false h1
          go_wp2_with fail
          go_meet
          case rel => exact ⟨false, rfl, (fun h => by cases h), rfl⟩
      case rest =>
        obtain ⟨bb, rfl, hbb, hwc⟩ := hcut
        subst hwc
        go_upto_if 127 with (fail)
        go_cut [] (fun wx => ∃ (n3 : Nat) (b3 : List Int) (G3 : Nat → Option Int), n3 ≤ n2 + 500 ∧ Mid data ρ e en en far2 G G3 L2 ∧
          Hid (Sep wx [sndOb W0.heap.size gs ⟨data, e, en, far2, e + Wn⟩, rcvOb W0.heap.size gr ⟨Wn, b3, e, n3, G3⟩, lateOb W0.heap.size (.slice A9 L2.length c9) L2, rowOb W0.heap.size u10 (data.take e)] (fun _ => False)) ∧ Hid (Below W0.heap.size W0 wx))
        case first =>
          cases bb with
          | false =>
            go_wp2_with fail
            go_meet
            case rel => exact ⟨n2, b2, G2, by omega, hM, HSr, HBr⟩
          | true =>
            obtain ⟨h1, h2⟩ := hbb rfl
            obtain ⟨j, hj⟩ : ∃ j : Nat, (ρ : Int) % (lat.length : Int) = (j : Int) := ⟨ρ % lat.length, by rw [Int.natCast_emod]⟩
            have hjl : (j : Int) < (lat.length : Int) := by rw [← hj]; exact Int.emod_lt_of_pos (ρ : Int) (show (0 : Int) < (lat.length : Int) by omega)
            have hjn : j < lat.length := Int.ofNat_lt.1 hjl
            obtain ⟨ad, rfl, hcell⟩ := cell_of_C (Kd.C_below HRA.out HBr.out) j hjn rfl
            obtain ⟨y, hy⟩ : ∃ y, lat[j] = y := ⟨_, rfl⟩
            have hyb := HBA.out y (by rw [← hy]; exact List.getElem_mem hjn)
            rw [hy] at hcell
            obtain ⟨i2, hi2⟩ : ∃ i2 : Nat, y % (L2.length : Int) = (i2 : Int) := ⟨(y % (L2.length : Int)).toNat, by have := Int.emod_nonneg y (show (L2.length : Int) ≠ 0 by omega); omega⟩
            have hil : (i2 : Int) < (L2.length : Int) := by rw [← hi2]; exact Int.emod_lt_of_pos y (show (0 : Int) < (L2.length : Int) by omega)
            have hin : i2 < L2.length := Int.ofNat_lt.1 hil
            obtain ⟨p, hp⟩ : ∃ p, L2[i2] = p := ⟨_, rfl⟩
            have hpo := hM.parts p (by rw [← hp]; exact List.getElem_mem hin)
            obtain ⟨ad9, A1, c1, rfl, k0, k1, hc1, hC1⟩ := late_at (Fw.Sep.third HSr.out) i2 p (by rw [List.getElem?_eq_getElem hin, hp])
            obtain ⟨o, m, rfl, hm1, hm2, hm3⟩ := hpo
            have hlm2 : ((data.drop o).take m).length = m := by rw [List.length_take, List.length_drop]; have := hM.fl; omega
            dsimp only at k0 k1 hc1 hC1
            rw [hlm2] at k1 hc1 hC1
            have q0 : ((lat.length : Int) == 0) = false := by rw [beq_eq_false_iff_ne]; omega
            have q1 : ((L2.length : Int) == 0) = false := by rw [beq_eq_false_iff_ne]; omega
            have r0 : ¬ lat = [] := fun e => by rw [e] at h2; simp at h2
            have r1 : ¬ L2 = [] := fun e => by rw [e] at h1; simp at h1
            have r2 : Int.tmod (ρ : Int) (lat.length : Int) = (j : Int) := by rw [← hj]; exact Int.tmod_eq_emod_of_nonneg (by omega)
            have r3 : Int.tmod y (L2.length : Int) = (i2 : Int) := by rw [← hi2]; exact Int.tmod_eq_emod_of_nonneg hyb.1
            have r7 : IntKind.i64.wrap y = y := i64_of (by omega)
            have r4 : ∀ V : World, (Instr.indexAt 59 (.slice (some ad9) L2.length c9) (.int .i64 (i2 : Int))).run Try.prog V = .ok (.pointer (some (ad9.add (i2 * 2)))) V := fun V => by
              have r5 : (sizeOf (Try.prog.elem 59)).run Try.prog V = .ok 2 V := by kernel_rfl
              rw [run_indexAt_slice (P := Try.prog) (w := V) 59 ad9 L2.length c9 .i64 (i2 : Int) (by kernel_rfl), if_pos ⟨by omega, hil⟩, r5]
              rfl
            have HC1 := Lib.hid hC1
            have HLM := Lib.hid hlm2
            have HBD := Lib.hid (show ∀ z ∈ (data.drop o).take m, 0 ≤ z ∧ z ≤ 255 from fun z hz => HB0.out z (List.mem_of_mem_drop (List.mem_of_mem_take hz)))
            have hnb2 : n2 ≤ 1000000 := by omega
            have hbU : Below wc.heap.size wc wc.drew := ⟨rfl, rfl, rfl, Nat.le_refl _, fun _ _ => rfl⟩
            have HSU := Lib.hid (HSr.out.step' hbU)
            have HCU := Lib.hid (Kd.C_below hC1 hbU)
            have HBU := Lib.hid (HBr.out.trans (hbU.mono hsr))
            have hsU := HBU.out.size
            clear hy hp hC1 hlm2 hbU
            rcases Bool.eq_false_or_eq_true (hearB ⟨Wn, b2, e, n2, G2⟩ o m) with hhr | hhr
            · have KH := Lib.hid (dd_hear_no (o : Int) A1 m c1 HSU.out (by omega) hhr)
              clear hhr
              go_wp2
              go_still_tail 17, (by kernel_rfl)
              change wpList _ _ _ _ _ wc.drew
              go_wp2_with (go_at_call 10; refine KH.out.mono ?_; rintro e' w9 ⟨rfl, hb9⟩)
              go_meet
              case rel => exact ⟨n2, b2, G2, by omega, hM, Lib.hid (HSU.out.step' hb9), Lib.hid (HBU.out.trans (hb9.mono hsU))⟩
            · have KH := Lib.hid (dd_hear_yes o A1 m c1 ((data.drop o).take m) HLM.out.symm HSU.out hsU HCU.out hc1 HBD.out (by show n2 + 500 ≤ _; omega) hhr)
              clear hhr
              go_wp2
              go_still_tail 17, (by kernel_rfl)
              change wpList _ _ _ _ _ wc.drew
              go_wp2_with (go_at_call 10; refine KH.out.mono ?_; rintro e' w9 ⟨rfl, ⟨b9, h9⟩, _, hb9⟩)
              go_meet
              case rel => exact ⟨n2 + ((data.drop o).take m).length, b9, _, by rw [HLM.out]; omega, mid_again hM hm3, Lib.hid h9, Lib.hid (HBU.out.trans hb9)⟩
        case rest =>
          obtain ⟨n3, b3, G3, hn3, hM3, HS3, HB3⟩ := hcut
          have hs3 := HB3.out.size
          have hhf := dd_half HS3.out
          have hup0 : Upto G3 e := H9A.out.up.keeps hM3.kp
          have hbt := b_take (b := b3) hhf.1.1 hM3.m hM3.fl
          have hbl := b_len hhf.2 hup0
          obtain ⟨e3, he3⟩ : ∃ e3, b3.length = e3 := ⟨_, rfl⟩
          rw [he3] at hbt hbl
          obtain ⟨hb3, hb3l⟩ := hbt
          subst hb3
          have hfl3 := hM3.fl
          have hup3 : Upto G3 e3 := upto_b hhf.1.1 (by omega)
          have hcov : 40 ≤ ρ → en ≤ e3 := fun h => by
            have h1 := hM3.up h rfl
            have h2 := hhf.2
            have h3 : en ≤ (data.take e3).length := b_len h2 h1
            omega
          clear hhf
          have E4 := Lib.hid (show readB ⟨Wn, data.take e3, e, n3, G3⟩ 1048576 = (data.drop e).take (e3 - e) by
            show ((data.take e3).drop e).take (min 1048576 ((data.take e3).length - e)) = _
            rw [he3, show min 1048576 (e3 - e) = e3 - e by omega, take_drop_take (by omega)])
          have E5 := Lib.hid (show readR ⟨Wn, data.take e3, e, n3, G3⟩ 1048576 = ⟨Wn, data.take e3, e3, n3, G3⟩ by
            show Rc.mk Wn (data.take e3) (e + min 1048576 ((data.take e3).length - e)) n3 G3 = _
            rw [he3, show e + min 1048576 (e3 - e) = e3 by omega])
          have E6 := Lib.hid (take_more (data := data) hbl)
          have HL1 := Lib.hid (show ((data.drop e).take (e3 - e)).length = e3 - e by rw [List.length_take, List.length_drop]; omega)
          have HE3 := Lib.hid he3
          obtain ⟨A10, c10, hu10⟩ := row_val (Fw.Sep.fourth HS3.out)
          rw [show (data.take e).length = e by rw [List.length_take]; omega] at hu10
          subst hu10
          have KR := Lib.hid (show Calls Try.prog 13 #[.pointer (some ⟨gr, 0, none⟩), .int .i64 1048576] wc fun e' w' => ∃ A c, e' = .returned (.slice A (e3 - e) c) ∧ e3 - e ≤ c ∧ (Kd.int .u8).C w' A (e3 - e) ((data.drop e).take (e3 - e)) ∧
              Sep w' [rowOb W0.heap.size (.slice A10 e c10) (data.take e), sndOb W0.heap.size gs ⟨data, e, en, far2, e + Wn⟩, rcvOb W0.heap.size gr ⟨Wn, data.take e3, e3, n3, G3⟩, lateOb W0.heap.size (.slice A9 L2.length c9) L2] (fun _ => False) ∧ Below W0.heap.size wc w' from (dd_read 1048576 HS3.out hs3).mono fun e' w' ⟨v, he, hR, hS, _, hB⟩ => by
                rw [E4.out] at hR
                rw [E5.out] at hS
                obtain ⟨A, c, hv, hc, hC⟩ := Kd.R_reads hR
                rw [HL1.out] at hv hc hC
                subst hv
                exact ⟨A, c, he, hc, hC, Fw.Sep.fourth (hS.sub (fun k hk => hk.elim)), hB⟩)
          obtain ⟨hcutR, hcutC⟩ := take_cut A0 c0 data e3 (by omega) hc0
          have HCC := Lib.hid hcutC
          clear he3 hcutC
          go_upto_region 32 with (first
            | (go_at_call 13; refine KR.out.mono ?_; rintro e' w10 ⟨A11, c11, rfl, hc11, hC11, h11, hb11⟩; have HC11 := Lib.hid hC11; have HB10 := Lib.hid (HB3.out.trans hb11); have hs10 := HB10.out.size; obtain ⟨ok10, hR10, hf10, ht10⟩ := row_open h11; have HR10 := Lib.hid hR10; have HF10 := Lib.hid hf10; have HT10 := Lib.hid ht10; clear hC11 h11 hb11 hR10 hf10 ht10)
            | ((with_reducible refine gate_builtin (b := .append) (xs := #[.tmp 146, .tmp 148]) rfl ?_); at_builtin; refine Kd.R_append_row (Value.int .u8) (0 : Int) (w0 := W0) W0.heap.size rfl (.tmp 146) (.tmp 148) 22 5 (.int .u8 0) 1 rfl Try.underlying22 info8 rfl (by omega) (.slice A10 e c10) (data.take e) ((data.drop e).take (e3 - e)) A11 (e3 - e) c11 ok10 rfl rfl HF10.out HR10.out HC11.out HB10.out hs10 (by have h := List.length_take_le e data; omega) ?_; intro v12 w12 ho12 hb12 hg12 hat12; rw [E6.out] at ho12; have h12 := (HT10.out v12 w12 _ ho12 hg12).1; obtain ⟨A13, c13, hv13⟩ := row_val h12; rw [HE3.out] at hv13; subst hv13; have H12 := Lib.hid (Fw.Sep.back4 h12); have HB12 := Lib.hid hb12; clear ho12 hb12 hg12 hat12 h12))
          have z1 : decide ((data.length : Int) < (e3 : Int)) = false := decide_eq_false (by omega)
          have z1n : decide (data.length < e3) = false := decide_eq_false (by omega)
          have hs12 := HB12.out.size
          have KS := Lib.hid (show Calls Try.prog 12 #[.slice A13 e3 c13, .slice A0 e3 c0] w12 fun e' w' => e' = .returned (.bool true) ∧ Drawn0 w12 w' from by
            obtain ⟨_, h2, h3⟩ := row_C (Fw.Sep.fourth H12.out)
            have h4 := HCC.out w12 (Kd.C_below HR0.out HB12.out)
            have h5 := same_calls w12 A13 c13 (data.take e3) A0 c0 (data.take e3) (by rw [HE3.out]; exact h3) (by rw [HE3.out]; exact h2) (by rw [HE3.out]; exact h4) (by rw [HE3.out]; omega) (by rw [HE3.out]; omega)
            rw [HE3.out] at h5
            exact h5.mono fun e' w' ⟨he, hd⟩ => ⟨by rw [he, decide_eq_true rfl], hd⟩)
          have x5 : ∀ a b : Nat, IntKind.i64.wrap ((a : Int) - (b : Int)) = (a : Int) - (b : Int) ∨ True := fun _ _ => .inr trivial
          clear x5
          by_cases hel : e = data.length
          · have he3l : e3 = data.length := by omega
            have z2 : ((e3 : Int) == (data.length : Int)) = true := by rw [he3l]; simp
            have z3 : ((data.length : Int) - (e : Int) == 0) = true := by rw [hel]; simp
            have HZ3 := Lib.hid z3
            clear hel he3l
            go_wp2_with (first
              | (go_at_call 12; refine KS.out.mono ?_; rintro e' w13 ⟨rfl, hd⟩; have H13 := Lib.hid (H12.out.step' hd.below); have HB13 := Lib.hid (HB12.out.trans (hd.below.mono hs12)); have hs13 := HB13.out.size; clear hd)
              | (go_at_call 20; refine (ss_again H13.out).mono ?_; rintro e' w14 ⟨rfl, h14, _, hb14⟩; have H14 := Lib.hid h14; have HB14 := Lib.hid (HB13.out.trans hb14); have hs14 := HB14.out.size; clear h14 hb14)
              | (go_at_call 18; refine (ss_left H14.out).mono ?_; rintro e' w15 ⟨rfl, n15, h15⟩; have HB15 := Lib.hid (show Below W0.heap.size W0 w15 from by rw [h15]; exact below_drN HB14.out n15); clear h15))
            go_ret
            exact ⟨rfl, HBW.out.trans (HB15.out.mono (by omega))⟩
          · have z3 : ((data.length : Int) - (e : Int) == 0) = false := by rw [beq_eq_false_iff_ne]; omega
            have HEL := Lib.hid hel
            clear hel
            go_wp2_with (first
              | (go_at_call 12; refine KS.out.mono ?_; rintro e' w13 ⟨rfl, hd⟩; have H13 := Lib.hid (H12.out.step' hd.below); have HB13 := Lib.hid (HB12.out.trans (hd.below.mono hs12)); have hs13 := HB13.out.size; clear hd)
              | (go_at_call 20; refine (ss_again H13.out).mono ?_; rintro e' w14 ⟨rfl, h14, _, hb14⟩; have H14 := Lib.hid h14; have HB14 := Lib.hid (HB13.out.trans hb14); have hs14 := HB14.out.size; clear h14 hb14)
              | (go_at_call 18; refine (ss_left H14.out).mono ?_; rintro e' w15 ⟨rfl, n15, h15⟩; have H15 := Lib.hid (show Sep w15 [sndOb W0.heap.size gs ⟨data, e, e, far2, e + Wn⟩, rcvOb W0.heap.size gr ⟨Wn, data.take e3, e3, n3, G3⟩, lateOb W0.heap.size (.slice A9 L2.length c9) L2, rowOb W0.heap.size (.slice A13 e3 c13) (data.take e3)] (fun _ => False) from by rw [h15]; exact Fw.Sep.drawn H14.out n15); have HB15 := Lib.hid (show Below W0.heap.size W0 w15 from by rw [h15]; exact below_drN HB14.out n15); clear h15))
            go_roundg (gk - 1)
            case measure => omega
            case rel =>
              have hA := H9A.out
              have hlate := hA.late
              have hne := HEL.out
              have hr100 : ρ < 100 := by
                by_cases h : ρ < 100
                · exact h
                · have := hlate (by omega)
                  omega
              refine ⟨ρ + 1, nn2, e3, far2, e, e + Wn, n3, G3, L2, by go_num, rfl, by omega, by omega, by omega, hbl, by omega, ⟨hb3l, hfl3, hM3.m, hup3, hM3.parts, by have := hA.ll; omega, by have := hA.nn; omega, fun h => ?_⟩, H15, HB15⟩
              by_cases h40 : 40 ≤ ρ
              · have h1 := hcov h40
                have h2 := hlate h40
                omega
              · omega
set_option maxRecDepth 100000 in
set_option maxHeartbeats 1000000 in
theorem comes_early (w : World) (A0 : Option Addr) (c0 : Nat) (data : List Int) (x : Int) (Al At Aa : Option Addr) (cl ct ca l t a : Nat)
    (h : 3000 < data.length ∨ 60 < l ∨ 60 < t ∨ 60 < a) :
    Calls Try.prog 7 #[.slice A0 data.length c0, .int .u8 x, .agg #[.slice Al l cl, .slice At t ct, .slice Aa a ca]] w fun e w' => e = .returned (.bool true) ∧ Below w.heap.size w w' := by
  obtain ⟨W0, hW0⟩ : ∃ W0, w.alloc (.cells #[.slice Al l cl, .slice At t ct, .slice Aa a ca] 58) = W0 := ⟨_, rfl⟩
  have hbW : Below w.heap.size w W0 := by rw [← hW0]; exact (Below.refl _ _).alloc (Nat.le_refl _) _
  have hE0 : W0.heap[w.heap.size]? = some (.cells #[.slice Al l cl, .slice At t ct, .slice Aa a ca] 58 (0, 0)) := by rw [← hW0]; exact new_cellsN _ _ _
  have hs0 : w.heap.size < W0.heap.size := by rw [← hW0]; simp
  have hsw : w.heap.size ≤ W0.heap.size := by omega
  have HBW := Lib.hid hbW
  have HA := Lib.hid (awake_calls W0)
  have HWAY := Lib.hid (show ∀ V : World, Below W0.heap.size W0 V → V.cell? ⟨w.heap.size, 0, none⟩ = some (.slice Al l cl) ∧ V.cell? ⟨w.heap.size, 1, none⟩ = some (.slice At t ct) ∧ V.cell? ⟨w.heap.size, 2, none⟩ = some (.slice Aa a ca) from fun V hV => by
    have h := (hV.block w.heap.size (by omega)).trans hE0
    exact ⟨cell_cellsN h 0 (by simp), cell_cellsN h 1 (by simp), cell_cellsN h 2 (by simp)⟩)
  clear hbW hE0
  by_cases h1 : 3000 < data.length
  · have g1 : decide (3000 < (data.length : Int)) = true := decide_eq_true (by omega)
    clear h
    go_enter Try.func7, Try.ntmps7
    go_upto_region 3 with (go_at_call 8; refine HA.out.mono ?_; rintro e w1 ⟨rfl, hb1⟩)
    obtain ⟨e0, e1, e2⟩ := HWAY.out w1 hb1
    go_wp2
    go_ret
    exact ⟨rfl, HBW.out.trans (hb1.mono hsw)⟩
  · have g1 : decide (3000 < (data.length : Int)) = false := decide_eq_false (by omega)
    by_cases h2 : 60 < l
    · have g2 : decide (60 < (l : Int)) = true := decide_eq_true (by omega)
      clear h
      go_enter Try.func7, Try.ntmps7
      go_upto_region 3 with (go_at_call 8; refine HA.out.mono ?_; rintro e w1 ⟨rfl, hb1⟩)
      obtain ⟨e0, e1, e2⟩ := HWAY.out w1 hb1
      go_wp2
      go_ret
      exact ⟨rfl, HBW.out.trans (hb1.mono hsw)⟩
    · have g2 : decide (60 < (l : Int)) = false := decide_eq_false (by omega)
      by_cases h3 : 60 < t
      · have g3 : decide (60 < (t : Int)) = true := decide_eq_true (by omega)
        clear h
        go_enter Try.func7, Try.ntmps7
        go_upto_region 3 with (go_at_call 8; refine HA.out.mono ?_; rintro e w1 ⟨rfl, hb1⟩)
        obtain ⟨e0, e1, e2⟩ := HWAY.out w1 hb1
        go_wp2
        go_ret
        exact ⟨rfl, HBW.out.trans (hb1.mono hsw)⟩
      · have g3 : decide (60 < (t : Int)) = false := decide_eq_false (by omega)
        have g4 : decide (60 < (a : Int)) = true := decide_eq_true (by omega)
        clear h
        go_enter Try.func7, Try.ntmps7
        go_upto_region 3 with (go_at_call 8; refine HA.out.mono ?_; rintro e w1 ⟨rfl, hb1⟩)
        obtain ⟨e0, e1, e2⟩ := HWAY.out w1 hb1
        go_wp2
        go_ret
        exact ⟨rfl, HBW.out.trans (hb1.mono hsw)⟩
/-! ### what a way is -/
abbrev WayV := List Bool × List Bool × List Int
def dWay : Kd WayV := Kd.pair (Kd.slice 4 Kd.bool) (Kd.pair (Kd.slice 4 Kd.bool) (Kd.slice 5 (Kd.int .u8)))
theorem opens_Way : Op.Opens Try.prog 58 dWay (fun x => ∀ b ∈ x.2.2, 0 ≤ b ∧ b ≤ 255) :=
  Op.opens_mono (Op.opens_struct Try.underlying58 (by kernel_rfl)
    (Op.opensF_cons rfl (by kernel_rfl) (Op.opens_slice Try.underlying52 (by kernel_rfl) (Op.opens_bool Try.underlying4))
      (Op.opensF_cons rfl (by kernel_rfl) (Op.opens_slice Try.underlying52 (by kernel_rfl) (Op.opens_bool Try.underlying4))
        (Op.opensF_one rfl (by kernel_rfl) (Op.opens_slice Try.underlying22 (by kernel_rfl) (Op.opens_int Try.underlying5))))))
    (fun y h b hb => wf_bd (h.2.2.2 b hb) (by decide) (by decide))
theorem comes_row (A0 : Option Addr) (c0 : Nat) (data : List Int) (x : Int) (cs : Array Value) (y : WayV) (w : World)
    (hr0 : Kd.C (Kd.int .u8) w A0 data.length data) (hc0 : data.length ≤ c0) (hy0 : data.length * 1 ≤ 140737488351232) (hw0 : ∀ b ∈ data, (Lit.int .u8 b).wf = true)
    (hx : (Lit.int .u8 x).wf = true) (hr : dWay.K w y (Value.agg cs).cells.toList) (hw : ∀ b ∈ y.2.2, 0 ≤ b ∧ b ≤ 255) :
    Calls Try.prog 7 #[.slice A0 data.length c0, .int .u8 x, .agg cs] w fun e w' => e = .returned (.bool true) ∧ Below w.heap.size w w' := by
  obtain ⟨lost, twice, lat⟩ := y
  obtain ⟨_, _, e, ⟨Al, cl, rfl, hcl, hCl⟩, _, _, rfl, ⟨At, ct, rfl, hct, hCt⟩, Aa, ca, rfl, hca, hCa⟩ := hr
  have e' : cs = #[.slice Al lost.length cl, .slice At twice.length ct, .slice Aa lat.length ca] := by
    cases cs
    simpa [Value.cells] using e
  subst e'
  by_cases h : data.length ≤ 3000 ∧ lost.length ≤ 60 ∧ twice.length ≤ 60 ∧ lat.length ≤ 60
  · exact comes_in w A0 c0 data x Al At Aa cl ct ca lost twice lat (wf_bd hx (by decide) (by decide)) hr0 hc0 (fun b hb => wf_bd (hw0 b hb) (by decide) (by decide)) h.1 hCl h.2.1 hCt h.2.2.1 hCa h.2.2.2 hw
  · exact comes_early w A0 c0 data x Al At Aa cl ct ca _ _ _ (by omega)
end Go.Proofs.Ytgkcncdanhkkoaa.Fw
