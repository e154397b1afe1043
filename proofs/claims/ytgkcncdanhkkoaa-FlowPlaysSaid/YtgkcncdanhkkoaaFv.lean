/-
  The laws of the stream: scripts: whether their steps are small (small), and FlowWindow: the walk of the law: whatever the script: it returns true, and nothing that lay has turned. Condition: the script's numbers and bytes are of their kinds.
-/
import Derived.Test.YtgkcncdanhkkoaaFc
import Derived.Test.YtgkcncdanhkkoaaOp
import Derived.Deep.CutRange
namespace Go.Proofs.Ytgkcncdanhkkoaa.Fw
open Go.RowKit Go.Maps Go.Proofs.Ytgkcncdanhkkoaa.Sp Go.Proofs.YtgkcncdanhkkoaaW.PrintWords Go.Proofs.YtgkcncdanhkkoaaW.PrintLast Go.Proofs.YtgkcncdanhkkoaaW.PrintMore
set_option linter.unusedVariables false
set_option linter.unusedSimpArgs false
abbrev Step := Int × Int × Int × List Int
def dDo : Kd Step := Kd.pair (Kd.int .i64) (Kd.pair (Kd.int .i64) (Kd.pair (Kd.int .i64) (Kd.slice 5 (Kd.int .u8))))
def i64B (x : Int) : Prop := -9223372036854775808 ≤ x ∧ x ≤ 9223372036854775807
def okDo (x : Step) : Prop := i64B x.1 ∧ i64B x.2.1 ∧ i64B x.2.2.1 ∧ ∀ b ∈ x.2.2.2, 0 ≤ b ∧ b ≤ 255
theorem at_D {w : World} {A : Option Addr} {n : Nat} {l : List Step} (h : dDo.C w A n l) (i : Nat) (x : Step) (hx : l[i]? = some x) (hn : n = l.length) : ∃ ad A2 c2, A = some ad ∧ w.cell? (ad.add (i * 4)) = some (.int .i64 x.1) ∧ w.cell? ⟨(ad.add (i * 4)).block, (ad.add (i * 4)).off + 1, none⟩ = some (.int .i64 x.2.1) ∧
    w.cell? ⟨(ad.add (i * 4)).block, (ad.add (i * 4)).off + 2, none⟩ = some (.int .i64 x.2.2.1) ∧ w.cell? ⟨(ad.add (i * 4)).block, (ad.add (i * 4)).off + 3, none⟩ = some (.slice A2 x.2.2.2.length c2) ∧ x.2.2.2.length ≤ c2 ∧ (Kd.int .u8).C w A2 x.2.2.2.length x.2.2.2 := by
  have hi := (List.getElem?_eq_some_iff.1 hx).1
  obtain ⟨ad, c, e, _, hK, hc⟩ := Kd.C_get h (0, 0, 0, []) i (by omega) (by omega)
  have hg : l.getD (i : Int).toNat (0, 0, 0, []) = x := by rw [Int.toNat_natCast, List.getD_eq_getElem?_getD, hx]; rfl
  rw [hg] at hK
  obtain ⟨_, _, rfl, rfl, ⟨_, _, rfl, rfl, ⟨_, _, rfl, rfl, A2, c2, rfl, hl, hC⟩⟩⟩ := hK
  exact ⟨ad, A2, c2, e, hc 0 _ rfl, by rw [← add_field _ _ 1 (by omega)]; exact hc 1 _ rfl, by rw [← add_field _ _ 2 (by omega)]; exact hc 2 _ rfl, by rw [← add_field _ _ 3 (by omega)]; exact hc 3 _ rfl, hl, hC⟩
def smallB (l : List Step) : Bool := (l.take 60).all fun x => decide (x.2.2.2.length ≤ 600)
theorem smallB_at {l : List Step} (h : smallB l = true) {i : Nat} {x : Step} (hi : i < 60) (hx : l[i]? = some x) : x.2.2.2.length ≤ 600 := by
  have h1 : (l.take 60)[i]? = some x := by rw [List.getElem?_take, if_pos hi, hx]
  have := List.all_eq_true.1 h x (List.mem_of_getElem? h1)
  simpa using this
theorem getS {l : List Step} {i : Nat} (h : i < l.length) : l[i]? = some l[i] := List.getElem?_eq_getElem h
set_option maxRecDepth 100000 in
set_option maxHeartbeats 1000000 in
theorem small_calls (w : World) (A : Option Addr) (c : Nat) (l : List Step) (hr : dDo.C w A l.length l) (hc : l.length ≤ c) (hlen : l.length ≤ 140737488355328) :
    Calls Try.prog 19 #[.slice A l.length c] w fun e w' => e = .returned (.bool (smallB l)) ∧ w = w' := by
  have HR := Lib.hid hr
  clear hr
  obtain ⟨R, hR⟩ : ∃ R, smallB l = R := ⟨_, rfl⟩
  rw [hR]
  have HE := Lib.hid hR
  clear hR
  go_enter Try.func19, Try.ntmps19
  go_wp2
  go_loop [3] (fun v3 => ∃ i : Nat, v3 = .int .i64 i ∧ i ≤ l.length ∧ i ≤ 60 ∧ Hid (∀ x ∈ l.take i, x.2.2.2.length ≤ 600)) (fun v3 => l.length - (intOf v3).toNat)
  case atStart => exact ⟨0, rfl, Nat.zero_le _, by omega, Lib.hid (by simp)⟩
  case round =>
    obtain ⟨i, rfl, hi, hi2, HT⟩ := hrel
    by_cases hlt : i < l.length
    · have b0 : decide ((i : Int) < (l.length : Int)) = true := decide_eq_true (by omega)
      have b1 : (i : Int) < (l.length : Int) := by omega
      by_cases h60 : i < 60
      · have b2 : decide ((i : Int) < 60) = true := decide_eq_true (by omega)
        obtain ⟨x, hx⟩ : ∃ x, l[i] = x := ⟨_, rfl⟩
        obtain ⟨ad, A2, c2, rfl, _, _, _, k2, _, _⟩ := at_D HR.out i x (by rw [getS hlt, hx]) rfl
        have HX := Lib.hid hx
        clear hx
        by_cases hbig : x.2.2.2.length ≤ 600
        · have b3 : decide (600 < (x.2.2.2.length : Int)) = false := decide_eq_false (by omega)
          have HB := Lib.hid hbig
          clear hbig
          go_wp2
          go_round
          case rel => exact ⟨i + 1, by go_num, by omega, by omega, Lib.hid (fun y hy => by
            rw [List.take_succ_eq_append_getElem hlt] at hy
            rcases List.mem_append.1 hy with hy | hy
            · exact HT.out y hy
            · rw [List.mem_singleton.1 hy, HX.out]; exact HB.out)⟩
          case measure => simp [intOf]; omega
        · have b3 : decide (600 < (x.2.2.2.length : Int)) = true := decide_eq_true (by omega)
          have HB := Lib.hid hbig
          clear hbig
          go_wp2
          go_ret
          refine ⟨?_, rfl⟩
          have : smallB l = false := by
            rw [← Bool.not_eq_true]
            intro hs
            exact HB.out (smallB_at hs h60 (by rw [getS hlt, HX.out]))
          rw [← HE.out, this]
          rfl
      · have b2 : decide ((i : Int) < 60) = false := decide_eq_false (by omega)
        go_wp2
        go_ret
        refine ⟨?_, rfl⟩
        have : smallB l = true := by
          unfold smallB
          rw [List.all_eq_true]
          intro x hx
          rw [show (60 : Nat) = i by omega] at hx
          simpa using HT.out x hx
        rw [← HE.out, this]
        rfl
    · have b0 : decide ((i : Int) < (l.length : Int)) = false := decide_eq_false (by omega)
      go_wp2
      go_ret
      refine ⟨?_, rfl⟩
      have : smallB l = true := by
        unfold smallB
        rw [List.all_eq_true]
        intro x hx
        have hx' : x ∈ l.take i := by rw [List.take_of_length_le (by omega)]; exact List.mem_of_mem_take hx
        simpa using HT.out x hx'
      rw [← HE.out, this]
      rfl

theorem cell_on {w wx : World} {a : Addr} {v : Value} (hb : Below w.heap.size w wx) (h : w.cell? a = some v) : wx.cell? a = some v := (hb.cell (World.block_lt_of_cell? _ _ h)).trans h
theorem hear_in {r : Rc} {off : Nat} {n : Nat} (h : hearB r off n = false) : off + n ≤ r.read + r.win ∧ off + n ≤ 1048576 ∧ 1 ≤ n ∧ n ≤ 500 := by
  unfold hearB at h
  simp only [Bool.or_eq_false_iff, decide_eq_false_iff_not] at h
  omega
theorem hear_off {r : Rc} {off : Int} {n : Nat} (h : hearB r off n = false) : ∃ o : Nat, off = (o : Int) := by
  unfold hearB at h
  simp only [Bool.or_eq_false_iff, decide_eq_false_iff_not] at h
  exact ⟨off.toNat, by omega⟩
theorem ack_in {s : S} {u d : Int} (h : ackB s u d = false) : ∃ a b : Nat, u = (a : Int) ∧ d = (b : Int) ∧ s.base ≤ a ∧ a ≤ s.far ∧ b ≤ 4096 := by
  unfold ackB at h
  simp only [Bool.or_eq_false_iff, decide_eq_false_iff_not] at h
  exact ⟨u.toNat, d.toNat, by omega, by omega, by omega, by omega, by omega⟩
/-- What a script leaves true of a receiver: nothing came from beyond its window. -/
def Within (W i : Nat) (r : Rc) : Prop := r.win = W ∧ (∀ j c, r.G j = some c → j < r.read + W) ∧ r.n ≤ 500 * i
theorem within_len {W i : Nat} {r : Rc} (h : Within W i r) (hh : r.half) : r.b.length ≤ r.read + W := by
  rcases Nat.eq_zero_or_pos r.b.length with h0 | h0
  · omega
  · have e := hh.1 (r.b.length - 1) (by omega)
    rw [List.getElem?_eq_getElem (by omega)] at e
    have := h.2.1 _ _ e
    omega
theorem within_up {W i : Nat} {r : Rc} (h : Within W i r) : Within W (i + 1) r := ⟨h.1, h.2.1, by have := h.2.2; omega⟩
theorem within_hear {W i : Nat} {r : Rc} {off : Nat} {l b' : List Int} (h : Within W i r) (hb : hearB r off l.length = false) : Within W (i + 1) { r with b := b', n := r.n + l.length, G := fillG r.G off l } := by
  have hi := hear_in hb
  refine ⟨h.1, fun j c hj => ?_, by show r.n + l.length ≤ _; have := h.2.2; omega⟩
  rcases fill_val hj with hj | ⟨_, h1, h2⟩
  · exact h.2.1 j c hj
  · have := (List.getElem?_eq_some_iff.1 h2).1
    show j < r.read + W
    have := h.1
    omega
theorem within_read {W i : Nat} {r : Rc} {most : Int} (h : Within W i r) : Within W (i + 1) (readR r most) := by
  refine ⟨h.1, fun j c hj => ?_, by show r.n ≤ _; have := h.2.2; omega⟩
  have := h.2.1 j c hj
  show j < r.read + readN r most + W
  omega
set_option maxRecDepth 100000 in
set_option maxHeartbeats 4000000 in
theorem window_calls (w : World) (x : Int) (A : Option Addr) (c : Nat) (l : List Step) (hx : 0 ≤ x ∧ x ≤ 65535) (hr : dDo.C w A l.length l) (hc : l.length ≤ c) (hlen : l.length ≤ 140737488355328) (hok : ∀ x ∈ l, okDo x) :
    Calls Try.prog 5 #[.int .u16 x, .slice A l.length c] w fun e w' => e = .returned (.bool true) ∧ Below w.heap.size w w' := by
  have HR := Lib.hid hr
  have HO := Lib.hid hok
  clear hr hok
  have q25 : ∀ (w : World) (a : Addr), (binOp .eql 36 (.pointer (some a)) (.pointer none)).run Try.prog w = .ok (.bool false) w := fun w a => by kernel_rfl
  have q26 : ∀ (w : World) (a : Addr), (binOp .eql 24 (.pointer (some a)) (.pointer none)).run Try.prog w = .ok (.bool false) w := fun w a => by kernel_rfl
  obtain ⟨W, hW⟩ : ∃ W : Nat, 1 + x % 4096 = (W : Int) := ⟨(1 + x % 4096).toNat, by omega⟩
  have hW2 : 1 ≤ W ∧ W ≤ 4096 := by omega
  have HA := Lib.hid (awake_calls w)
  have HS := Lib.hid (fun W (hW : Below w.heap.size w W) => small_calls W A c l (Kd.C_below HR.out hW) hc hlen)
  go_enter Try.func5, Try.ntmps5
  rcases Bool.eq_false_or_eq_true (smallB l) with hs | hs'
  case inr =>
    go_wp2_with (first
      | (go_at_call 8; refine HA.out.mono ?_; rintro e w1 ⟨rfl, hb1⟩)
      | (go_at_call 19; refine (HS.out _ hb1).mono ?_; rintro e w2 ⟨rfl, rfl⟩; rw [hs']))
    go_ret
    exact ⟨rfl, hb1⟩
  case inl =>
    have HSM := Lib.hid hs
    clear hs
    go_upto_region 10 with (first
      | (go_at_call 8; refine HA.out.mono ?_; rintro e w1 ⟨rfl, hb1⟩)
      | (go_at_call 19; refine (HS.out _ hb1).mono ?_; rintro e w2 ⟨rfl, rfl⟩; rw [HSM.out]; have HW1 := Lib.hid hb1; have hs1 := hb1.size; clear hb1)
      | (go_at_call 14; refine (ss_new (base := w.heap.size) (w := w1) (Xs := []) (av := fun _ => False) (fun k hk => hk.elim) hs1).mono ?_; rintro e w2 ⟨gs, rfl, h2, hb2⟩; have H2 := Lib.hid h2; have HW2 := Lib.hid (HW1.out.trans (hb2.mono hs1)); have hs2 := HW2.out.size; clear h2 hb2)
      | (go_at_call 9; refine (rr_new W hW2.1 hW2.2 H2.out hs2).mono ?_; rintro e w3 ⟨gr, rfl, h3, hb3⟩; have H3 := Lib.hid (Sep.swap h3); have HW3 := Lib.hid (HW2.out.trans (hb3.mono hs2)); have hs3 := HW3.out.size; clear h3 hb3))
    clear hW
    go_wp2
    go_loopg [9, 10, 11] (60 : Nat) (fun kq v9 v10 v11 wr => ∃ (i : Nat) (s : S) (r : Rc), v11 = .int .i64 i ∧ v9 = .int .i64 s.limit ∧ v10 = .int .i64 r.read ∧ i + kq = 60 ∧ Hid (Within W i r) ∧ Hid (Sep wr [sndOb w.heap.size gs s, rcvOb w.heap.size gr r] (fun _ => False)) ∧ Hid (Below w.heap.size w wr))
    case atStart => exact ⟨0, S0, R0 W, rfl, rfl, rfl, by omega, Lib.hid ⟨rfl, (fun j c h => by cases h), Nat.zero_le _⟩, H3, HW3⟩
    case round =>
      obtain ⟨i, s, r, rfl, rfl, rfl, hik, HI, HT, HB⟩ := hrel
      by_cases hlt : i < l.length
      · have b0 : decide ((i : Int) < (l.length : Int)) = true := decide_eq_true (by omega)
        have b1 : (i : Int) < (l.length : Int) := by omega
        by_cases h60 : i < 60
        · have b2 : decide ((i : Int) < 60) = true := decide_eq_true (by omega)
          obtain ⟨x, hx⟩ : ∃ x, l[i] = x := ⟨_, rfl⟩
          have hxi : l[i]? = some x := by rw [getS hlt, hx]
          have hxo := HO.out x (by rw [← hx]; exact List.getElem_mem hlt)
          have hx600 := smallB_at HSM.out h60 hxi
          obtain ⟨ad, A2, c2, rfl, k0, k1, k2, k3, hc2, hC2⟩ := at_D HR.out i x hxi rfl
          have k0 := cell_on HB.out k0
          have k1 := cell_on HB.out k1
          have k2 := cell_on HB.out k2
          have k3 := cell_on HB.out k3
          obtain ⟨kind, a, b, t⟩ := x
          dsimp only at k0 k1 k2 k3 hc2 hC2 hx600
          have HX := Lib.hid hxo
          have hws := HB.out.size
          obtain ⟨W3, hW3⟩ : ∃ W3, wr.alloc (.cells #[.int .i64 kind, .int .i64 a, .int .i64 b, .slice A2 t.length c2] 46) = W3 := ⟨_, rfl⟩
          have h3b : Below wr.heap.size wr W3 := by rw [← hW3]; exact (Below.refl _ _).alloc (Nat.le_refl _) _
          have h3c : W3.heap[wr.heap.size]? = some (.cells #[.int .i64 kind, .int .i64 a, .int .i64 b, .slice A2 t.length c2] 46 (0, 0)) := by rw [← hW3]; exact new_cellsN _ _ _
          have h3s : W3.heap.size = wr.heap.size + 1 := by rw [← hW3]; simp
          have d0 := cell_cellsN h3c 0 (by simp)
          have d1 := cell_cellsN h3c 1 (by simp)
          have d2 := cell_cellsN h3c 2 (by simp)
          have d3 := cell_cellsN h3c 3 (by simp)
          simp only [List.getElem_toArray, List.getElem_cons_zero, List.getElem_cons_succ] at d0 d1 d2 d3
          have HT3 := Lib.hid ((HT.out.step h3b).sub (av' := fun k => k = wr.heap.size) (fun k hk => .inr (by omega)))
          have HC3 := Lib.hid (Kd.C_below hC2 (HB.out.trans (h3b.mono HB.out.size)))
          have HE3 := Lib.hid h3c
          have HB3 := Lib.hid (HB.out.trans (h3b.mono hws))
          clear hx hxi hxo hC2 h3c h3b
          go_upto_block 2 with fail
          go_cut [9, 10] (fun v9 v10 wx => ∃ (s : S) (r : Rc), v9 = .int .i64 s.limit ∧ v10 = .int .i64 r.read ∧ Hid (Within W (i + 1) r) ∧ Hid (Sep wx [sndOb w.heap.size gs s, rcvOb w.heap.size gr r] (fun _ => False)) ∧ Hid (Below w.heap.size w wx))
          case first =>
            have hs3 := HB3.out.size
            have hfn := ss_fine HT3.out
            have hhf := (dd_half HT3.out).1
            have HWr := within_len HI.out hhf
            have hwin := HI.out.1
            have hrn := HI.out.2.2
            obtain ⟨f1, f2, f3, f4, f5, f6⟩ := hfn
            obtain ⟨m1, m2, m3, m4, m5, m6, m7⟩ := hhf
            clear f6 m1 m6 b0 b1 b2 k0 k1 k2 k3 hW3
            by_cases e0 : kind = 0
            · subst e0
              go_wp2_with (go_at_call 15; refine (ss_write A2 t.length c2 t rfl HT3.out (by omega) HC3.out hc2 HX.out.2.2.2 (by omega)).mono ?_; rintro e w4 ⟨rfl, h4, _, hb4⟩; have H4 := Lib.hid h4; have HB4 := Lib.hid (HB3.out.trans hb4); clear h4 hb4)
              go_meet
              case rel => exact ⟨writeS s t, r, rfl, rfl, Lib.hid (within_up HI.out), Lib.hid (H4.out.sub (fun k hk => hk.elim)), HB4⟩
            · have p0 : (kind == 0) = false := by simpa using e0
              clear e0
              by_cases e1 : kind = 1
              · subst e1
                by_cases hne : nextE s ≤ s.next
                · go_wp2_with (go_at_call 17; refine (ss_next_no HT3.out hne).mono ?_; rintro e w4 ⟨rfl, hb4⟩; have HB4 := Lib.hid (hb4.trans ((Below.refl W3.heap.size w4).alloc hb4.size (.cells #[.int .i64 0, .slice none 0 0] 29))); clear hb4)
                  go_meet
                  case rel => exact ⟨s, r, rfl, rfl, Lib.hid (within_up HI.out), Lib.hid ((HT3.out.step' HB4.out).sub (fun k hk => hk.elim)), Lib.hid (HB3.out.trans (HB4.out.mono hs3))⟩
                · obtain ⟨n1, hn1⟩ : ∃ n1, nextE s - s.next = n1 := ⟨_, rfl⟩
                  have hnl := nextE_le s
                  have HL := Lib.hid (show (nextB s).length = n1 by rw [nextB_len (ss_fine HT3.out), hn1])
                  have x1 : IntKind.i64.wrap ((s.next : Int) + (n1 : Int)) = (s.next : Int) + (n1 : Int) := i64_of (by omega)
                  have p5 : decide ((s.limit : Int) < (s.next : Int) + (n1 : Int)) = false := decide_eq_false (by omega)
                  have p6 : decide (500 < (n1 : Int)) = false := decide_eq_false (by omega)
                  have HNE := Lib.hid (show s.next < nextE s by omega)
                  clear hn1 hnl hne
                  go_wp2_with (go_at_call 17; refine (ss_next_yes HT3.out HNE.out).mono ?_; rintro e w4 ⟨v4, rfl, hR4, h4, _, hb4⟩; obtain ⟨A4, c4, hv4, hc4, hC4⟩ := Kd.R_reads hR4; rw [HL.out] at hv4; subst hv4; have H4 := Lib.hid (h4.step' ((Below.refl w4.heap.size w4).alloc (Nat.le_refl _) (.cells #[.int .i64 s.next, .slice A4 n1 c4] 29))); have HB4 := Lib.hid (HB3.out.trans (hb4.trans ((Below.refl w.heap.size w4).alloc (Nat.le_trans hs3 hb4.size) (.cells #[.int .i64 s.next, .slice A4 n1 c4] 29)))); clear h4 hb4 hR4 hC4 hc4)
                  go_meet
                  case rel => exact ⟨nextS s, r, rfl, rfl, Lib.hid (within_up HI.out), Lib.hid (H4.out.sub (fun k hk => hk.elim)), HB4⟩
              · have p1 : (kind == 1) = false := by simpa using e1
                clear e1
                by_cases e2 : kind = 2
                · subst e2
                  rcases Bool.eq_false_or_eq_true (ackB s a b) with hak | hak
                  · go_wp2_with (go_at_call 16; refine (ss_ack_no a b HT3.out hak).mono ?_; rintro e w4 ⟨rfl, rfl⟩)
                    go_meet
                    case rel => exact ⟨s, r, rfl, rfl, Lib.hid (within_up HI.out), Lib.hid (HT3.out.sub (fun k hk => hk.elim)), HB3⟩
                  · obtain ⟨u, d, rfl, rfl, y1, y2, y3⟩ := ack_in hak
                    have x1 : IntKind.i64.wrap ((u : Int) + (d : Int)) = (u : Int) + (d : Int) := i64_of (by omega)
                    have x2 : (if (s.limit : Int) < (u : Int) + (d : Int) then (u : Int) + (d : Int) else (s.limit : Int)) = ((max s.limit (u + d) : Nat) : Int) := by split <;> omega
                    have HAK := Lib.hid hak
                    clear hak
                    go_wp2_with (go_at_call 16; refine (ss_ack_yes u d HT3.out HAK.out).mono ?_; rintro e w4 ⟨rfl, h4, k4, hb4⟩; have H4 := Lib.hid h4; have HB4 := Lib.hid (HB3.out.trans hb4); have hE4 := (k4 _ rfl).trans HE3.out; have f1 := cell_cellsN hE4 1 (by simp); have f2 := cell_cellsN hE4 2 (by simp); simp only [List.getElem_toArray, List.getElem_cons_zero, List.getElem_cons_succ] at f1 f2; clear h4 hb4 k4 hE4)
                    go_meet
                    case rel => exact ⟨ackS s u d, r, rfl, rfl, Lib.hid (within_up HI.out), Lib.hid (H4.out.sub (fun k hk => hk.elim)), HB4⟩
                · have p2 : (kind == 2) = false := by simpa using e2
                  clear e2
                  by_cases e3 : kind = 3
                  · subst e3
                    go_wp2_with (go_at_call 20; refine (ss_again HT3.out).mono ?_; rintro e w4 ⟨rfl, h4, _, hb4⟩; have H4 := Lib.hid h4; have HB4 := Lib.hid (HB3.out.trans hb4); clear h4 hb4)
                    go_meet
                    case rel => exact ⟨{ s with next := s.base }, r, rfl, rfl, Lib.hid (within_up HI.out), Lib.hid (H4.out.sub (fun k hk => hk.elim)), HB4⟩
                  · have p3 : (kind == 3) = false := by simpa using e3
                    clear e3
                    by_cases e4 : kind = 4
                    · subst e4
                      rcases Bool.eq_false_or_eq_true (hearB r a t.length) with hhr | hhr
                      · go_wp2_with (go_at_call 10; refine (dd_hear_no a A2 t.length c2 HT3.out (by omega) hhr).mono ?_; rintro e w4 ⟨rfl, hb4⟩; have HB4 := Lib.hid hb4; clear hb4)
                        go_meet
                        case rel => exact ⟨s, r, rfl, rfl, Lib.hid (within_up HI.out), Lib.hid ((HT3.out.step' HB4.out).sub (fun k hk => hk.elim)), Lib.hid (HB3.out.trans (HB4.out.mono hs3))⟩
                      · obtain ⟨off, rfl⟩ := hear_off hhr
                        have hin := hear_in hhr
                        have x1 : IntKind.i64.wrap ((off : Int) + (t.length : Int)) = (off : Int) + (t.length : Int) := i64_of (by omega)
                        have x2 : IntKind.i64.wrap ((r.read : Int) + (W : Int)) = (r.read : Int) + (W : Int) := i64_of (by omega)
                        have p5 : decide ((r.read : Int) + (W : Int) < (off : Int) + (t.length : Int)) = false := decide_eq_false (by omega)
                        have HHR := Lib.hid hhr
                        clear hhr hin
                        go_wp2_with (go_at_call 10; refine (dd_hear_yes off A2 t.length c2 t rfl HT3.out (by omega) HC3.out hc2 HX.out.2.2.2 (by omega) HHR.out).mono ?_; rintro e w4 ⟨rfl, ⟨b4, h4⟩, k4, hb4⟩; have H4 := Lib.hid h4; have HB4 := Lib.hid (HB3.out.trans hb4); have hE4 := (k4 _ rfl).trans HE3.out; have f1 := cell_cellsN hE4 1 (by simp); have f2 := cell_cellsN hE4 3 (by simp); simp only [List.getElem_toArray, List.getElem_cons_zero, List.getElem_cons_succ] at f1 f2; clear h4 hb4 k4 hE4)
                        go_meet
                        case rel => exact ⟨s, { r with b := b4, n := r.n + t.length, G := fillG r.G off t }, rfl, rfl, Lib.hid (within_hear HI.out HHR.out), Lib.hid (H4.out.sub (fun k hk => hk.elim)), HB4⟩
                    · have p4 : (kind == 4) = false := by simpa using e4
                      clear e4
                      have x1 : IntKind.i64.wrap ((r.read : Int) + (readN r a : Int)) = ((r.read + readN r a : Nat) : Int) := by
                        have : r.read + readN r a ≤ r.b.length := by unfold readN; omega
                        rw [i64_of (by omega)]; omega
                      have HL := Lib.hid (show (readB r a).length = readN r a by
                        unfold readB
                        rw [List.length_take, List.length_drop]
                        unfold readN
                        omega)
                      go_wp2_with (go_at_call 13; refine (dd_read a HT3.out (by omega)).mono ?_; rintro e w4 ⟨v4, rfl, hR4, h4, _, hb4⟩; obtain ⟨A4, c4, hv4, hc4, hC4⟩ := Kd.R_reads hR4; rw [HL.out] at hv4; subst hv4; have H4 := Lib.hid h4; have HB4 := Lib.hid (HB3.out.trans hb4); clear h4 hb4 hR4 hC4 hc4)
                      go_meet
                      case rel => exact ⟨s, readR r a, rfl, rfl, Lib.hid (within_read HI.out), Lib.hid (H4.out.sub (fun k hk => hk.elim)), HB4⟩
          case rest =>
            obtain ⟨s', r', rfl, rfl, HI', HT', HB'⟩ := hcut
            have hhf := (dd_half HT'.out).1
            have hlr := within_len HI'.out hhf
            have hwin := HI'.out.1
            have hrd := hhf.2.1
            have hbl := hhf.2.2.1
            obtain ⟨L, hL⟩ : ∃ L : Nat, (W : Int) - ((r'.b.length : Int) - (r'.read : Int)) = (L : Int) := ⟨(W - (r'.b.length - r'.read)), by omega⟩
            have KA := Lib.hid (show Calls Try.prog 11 #[.pointer (some ⟨gr, 0, none⟩)] wc fun e w' => e = .returned (.tuple #[.int .i64 r'.b.length, .int .i64 L]) ∧ ∃ n, w' = wc.drewN n from (dd_ack HT'.out).mono fun e w' ⟨he, h⟩ => ⟨by rw [he, hwin, hL], h⟩)
            have p1 : decide ((L : Int) < 0) = false := decide_eq_false (by omega)
            have p2 : decide ((W : Int) < (L : Int)) = false := decide_eq_false (by omega)
            have p3 : decide (W < L) = false := decide_eq_false (by omega)
            have x1 : IntKind.i64.wrap ((r'.b.length : Int) - (r'.read : Int)) = (r'.b.length : Int) - (r'.read : Int) := i64_of (by omega)
            have x2 : IntKind.i64.wrap ((W : Int) - (L : Int)) = (W : Int) - (L : Int) := i64_of (by omega)
            have p4 : ((r'.b.length : Int) - (r'.read : Int) != (W : Int) - (L : Int)) = false := by
              have : (r'.b.length : Int) - (r'.read : Int) = (W : Int) - (L : Int) := by omega
              rw [this]
              simp
            clear hL hhf hwin
            go_wp2_with (go_at_call 11; refine KA.out.mono ?_; rintro e w5 ⟨rfl, n5, h5⟩; have H5 := Lib.hid (show Sep w5 [sndOb w.heap.size gs s', rcvOb w.heap.size gr r'] (fun _ => False) from by rw [h5]; exact Fw.Sep.drawn HT'.out n5); have HB5 := Lib.hid (show Below w.heap.size w w5 from by rw [h5]; exact below_drN HB'.out n5); clear h5)
            go_roundg (gk - 1)
            case measure => omega
            case rel => exact ⟨i + 1, s', r', by go_num, rfl, rfl, by omega, HI', H5, HB5⟩
        · have b2 : decide ((i : Int) < 60) = false := decide_eq_false (by omega)
          go_wp2
          go_ret
          exact ⟨rfl, HB.out⟩
      · have b0 : decide ((i : Int) < (l.length : Int)) = false := decide_eq_false (by omega)
        go_wp2
        go_ret
        exact ⟨rfl, HB.out⟩
theorem opens_Do : Op.Opens Try.prog 46 dDo okDo :=
  Op.opens_mono (Op.opens_struct Try.underlying46 (by kernel_rfl)
    (Op.opensF_cons rfl (by kernel_rfl) (Op.opens_int Try.underlying3)
      (Op.opensF_cons rfl (by kernel_rfl) (Op.opens_int Try.underlying3)
        (Op.opensF_cons rfl (by kernel_rfl) (Op.opens_int Try.underlying3)
          (Op.opensF_one rfl (by kernel_rfl) (Op.opens_slice Try.underlying22 (by kernel_rfl) (Op.opens_int Try.underlying5)))))))
    (fun y h => ⟨wf_bd h.1 (by decide) (by decide), wf_bd h.2.1 (by decide) (by decide), wf_bd h.2.2.1 (by decide) (by decide), fun b hb => wf_bd (h.2.2.2.2 b hb) (by decide) (by decide)⟩)
theorem opens_script : Op.Opens Try.prog 43 (Kd.slice 46 dDo) (fun l => ∀ x ∈ l, okDo x) := Op.opens_mono (Op.opens_slice Try.underlying43 (by kernel_rfl) opens_Do) (fun y h => h.2)
theorem window_row (x : Int) (A : Option Addr) (c : Nat) (l : List Step) (w : World) (hx : (Lit.int .u16 x).wf = true) (hr : dDo.C w A l.length l) (hc : l.length ≤ c) (hb : l.length * 48 ≤ 140737488351232) (hok : ∀ x ∈ l, okDo x) :
    Calls Try.prog 5 #[.int .u16 x, .slice A l.length c] w fun e w' => e = .returned (.bool true) ∧ Below w.heap.size w w' := window_calls w x A c l (wf_bd hx (by decide) (by decide)) hr hc (by omega) hok
end Go.Proofs.Ytgkcncdanhkkoaa.Fw
