/-
  ResvOrder, walked. Conditions: numbers are of their kinds.
-/
import Derived.Test.YtglpjoijkinlbaaRt
import Derived.Test.YtglpjoijkinlbaaRu
import Derived.Test.YtglpjoijkinlbaaRn
namespace Go.Proofs.Ytglpjoijkinlbaa.Rv
open Go.RowKit Go.Maps Go.Shelf Go.Sort Go.Proofs.YtglpjoijkinlbaaW.PrintWords Go.Proofs.YtglpjoijkinlbaaW.PrintLast Go.Proofs.YtglpjoijkinlbaaW.PrintMore
set_option linter.unusedVariables false
set_option linter.unusedSimpArgs false
attribute [local go_sem] Oper.semAt_some max2_int min2_int max_two min_two
theorem cell_of_C {k : IntKind} {w : World} {A : Option Addr} {n : Nat} {xs : List Int} (h : (Kd.int k).C w A n xs) (i : Nat) (h1 : i < xs.length) (hn : n = xs.length) : ∃ ad, A = some ad ∧ w.cell? (ad.add i) = some (.int k xs[i]) := by
  obtain ⟨ad, e, hc⟩ := Kd.at_int h i (by omega) (by omega)
  refine ⟨ad, e, ?_⟩
  rw [Int.toNat_natCast] at hc
  rw [hc]
  unfold Go.Proofs.YtglpjoijkinlbaaW.PrintWords.rd
  rw [Int.toNat_natCast, List.getD, List.getElem?_eq_getElem h1]
  rfl
theorem tab_own {W X : World} {g b n : Nat} {l : LimV} {L : List HeldP} {now : Int} {row : Option Nat} (h : TabAt W g b n l L now) (hg : W.grownBy X row) (hr2 : ∀ r, row = some r → r ≠ g ∧ r ≠ b) : TabAt X g b n l L now :=
  ⟨(hg.block g h.lt.1 (fun e => (hr2 _ e.symm).1 rfl)).trans h.1, h.2.kept hg (fun e => (hr2 _ e.symm).2 rfl)⟩
theorem boxed_own2 {X Y : World} {B t : Nat} {v : Value} {row : Option Nat} (h : Boxed X B t v) (hg : X.grownBy Y row) (hr : ∀ r, row = some r → ∃ o : Obj, X.heap[r]? = some o ∧ o.isCells = false) : Boxed Y B t v :=
  h.kept hg (fun e => by obtain ⟨o, ho, hc⟩ := hr _ e.symm; have h3' : X.heap[B]? = _ := h; rw [h3'] at ho; cases ho; cases hc)
theorem touch_from {g b B : Nat} {V w : World} (h : Touch g b V w) (hg : g < B) (hb : b < B) : KeepsFrom B V w :=
  ⟨h.2.2.2.1, fun k o hB hk _ => (h.2.2.2.2 k (Array.getElem?_eq_some_iff.1 hk).1 (by omega) (by omega)).trans hk⟩
theorem touch_keepS {g b : Nat} {S : Nat → Prop} {V w : World} (h : Touch g b V w) (hS : ∀ k, S k → k ≠ g ∧ k ≠ b) (hl : ∀ k, S k → k < V.heap.size) : KeepS S V w :=
  ⟨h.2.2.2.1, fun k hk => h.2.2.2.2 k (hl k hk) (hS k hk).1 (hS k hk).2⟩
theorem tab_set {W : World} {g b n : Nat} {l : LimV} {L : List HeldP} {now : Int} (h : TabAt W g b n l L now) {p : Addr} (v : Value) (h1 : g ≠ p.block) (h2 : b ≠ p.block) : TabAt (W.setCell p v) g b n l L now :=
  ⟨(Below.heap_setCell _ _ _ _ h1).trans h.1, h.2.setCell h2 _⟩
theorem boxed_set {W : World} {B t : Nat} {v v' : Value} {p : Addr} (h : Boxed W B t v) (h1 : B ≠ p.block) : Boxed (W.setCell p v') B t v := (Below.heap_setCell _ _ _ _ h1).trans h
set_option maxRecDepth 100000 in
set_option maxHeartbeats 16000000 in
theorem order_calls (w : World) (a b c d e f : Int) (A : Option Addr) (cA : Nat) (ps : List Int) (stop : Int) (hs : 0 ≤ stop ∧ stop ≤ 255) (hr : Kd.C (Kd.int .u8) w A ps.length ps) (hcA : ps.length ≤ cA) (hb : ∀ x ∈ ps, 0 ≤ x ∧ x ≤ 255) :
    Calls Try.prog 6 #[.agg #[.int .i64 a, .int .i64 b, .int .i64 c, .int .i64 d, .int .i64 e, .int .i64 f], .slice A ps.length cA, .int .u8 stop] w fun en w' => en = .returned (.bool true) ∧ Below w.heap.size w w' := by
  obtain ⟨W0, hW0⟩ : ∃ W, w.alloc (.cells #[.int .i64 a, .int .i64 b, .int .i64 c, .int .i64 d, .int .i64 e, .int .i64 f] 23) = W := ⟨_, rfl⟩
  obtain ⟨W1, hW1⟩ : ∃ W, W0.alloc (.cells #[.int .u8 stop] 5) = W := ⟨_, rfl⟩
  obtain ⟨W, hW⟩ : ∃ W, W1.alloc (.cells #[.bool false] 4) = W := ⟨_, rfl⟩
  have hs0 : W0.heap.size = w.heap.size + 1 := by rw [← hW0]; simp
  have hs1 : W1.heap.size = w.heap.size + 2 := by rw [← hW1]; simp; omega
  have hs2 : W.heap.size = w.heap.size + 3 := by rw [← hW]; simp; omega
  have hb01 : Below W0.heap.size W0 W1 := by rw [← hW1]; exact (Below.refl _ _).alloc (Nat.le_refl _) _
  have hb12 : Below W1.heap.size W1 W := by rw [← hW]; exact (Below.refl _ _).alloc (Nat.le_refl _) _
  have hbW : Below w.heap.size w W := by rw [← hW, ← hW1, ← hW0]; exact (((Below.refl _ w).alloc (Nat.le_refl _) _).alloc (by simp) _).alloc (by simp; omega) _
  have hbl : W.heap[w.heap.size]? = some (.cells (limC (a, b, c, d, e, f)) 23 (0, 0)) := by
    rw [hb12.block _ (by omega), hb01.block _ (by omega), ← hW0]; exact new_cellsN w _ _
  have hBS : Boxed W W0.heap.size 5 (.int .u8 stop) := by
    have h := Boxed.new W0 5 (.int .u8 stop)
    rw [hW1] at h
    exact (hb12.block _ (by omega)).trans h
  have hBR : Boxed W W1.heap.size 4 (.bool false) := by
    have h := Boxed.new W1 4 (.bool false)
    rw [hW] at h
    exact h
  have LC := Lib.hid (fun (V : World) (hV : Below W.heap.size W V) => lim_cells ((hV.block _ (by omega)).trans hbl))
  have HBW := Lib.hid hbW
  have HS2 := Lib.hid (show W0.heap.size = w.heap.size + 1 ∧ W1.heap.size = w.heap.size + 2 ∧ W.heap.size = w.heap.size + 3 from ⟨hs0, hs1, hs2⟩)
  have q25 : ∀ (w : World) (a : Addr), (binOp .eql 26 (.pointer (some a)) (.pointer none)).run Try.prog w = .ok (.bool false) w := fun w a => by kernel_rfl
  have HR := Lib.hid hr
  have HB := Lib.hid hb
  have HBS := Lib.hid hBS
  have HBR := Lib.hid hBR
  obtain ⟨n, hn⟩ : ∃ n, ps.length = n := ⟨_, rfl⟩
  have HN := Lib.hid hn
  rw [hn] at hcA ⊢
  clear hn hr hb hbl hbW hb01 hb12 hBS hBR hs0 hs1 hs2
  refine (callsIn_wide (n := 8)).1 ?_
  refine callsIn_of_wp_marks Try.func6 rfl trivial (wpIn_wide.2 ?_) rfl
  simp only [Try.ntmps6, List.size_toArray, List.length_cons, List.length_nil, Nat.reduceAdd, Nat.reduceSub, Array.replicate_succ, Array.replicate_zero, List.push_toArray, List.append_toArray, List.nil_append, List.cons_append]
  have KM := Lib.hid (fun V => rvmay_calls V a b c d e f)
  go_upto_region 3 with (go_at_call 7; refine (awake_calls _).mono ?_; rintro en w1 ⟨rfl, hb1⟩; have HB1 := Lib.hid hb1; clear hb1)

  clear hW0 hW1 hW
  obtain ⟨c0, c1, c2, c3, c4, c5⟩ := LC.out w1 HB1.out
  (try dsimp only at c0 c1 c2 c3 c4 c5)
  cases hm : mayL (a, b, c, d, e, f) with
  | false =>
    have KM1 := KM.out w1
    rw [hm] at KM1
    have KM1 := Lib.hid KM1
    have BR1 := (HB1.out.block _ (by have := HS2.out; omega)).trans HBR.out
    have HL1 : W1.heap.size < w1.heap.size := Nat.lt_of_lt_of_le (by have := HS2.out; omega) HB1.out.size
    go_wp2_with (go_at_call 11; refine KM1.out.mono ?_; rintro en w2 ⟨rfl, hg2⟩; have BR2 : Boxed w2 W1.heap.size 4 (.bool false) := (hg2.block W1.heap.size HL1 (by simp)).trans BR1; have c6 := BR2.cell; have f6 := BR2.frozen)
    refine ⟨.bool true, ?_, rfl, HBW.out.trans ((HB1.out.mono (by have := HS2.out; omega)).trans ((Below.mono (⟨hg2.os, hg2.tape, hg2.output, hg2.size, fun i hi => hg2.block i hi (by simp)⟩ : Below w1.heap.size w1 w2) (by have := HB1.out.size; have := HS2.out; omega)).setCell (p := ⟨W1.heap.size, 0, none⟩) (by show w.heap.size ≤ W1.heap.size; have := HS2.out; omega) _))⟩
    have c6' := (BR2.set (.bool true)).cell
    simp [results, Try.f6, go_sem, c6']
  | true =>
    have KM1 := KM.out w1
    rw [hm] at KM1
    have KM1 := Lib.hid KM1
    have HM := Lib.hid hm
    clear hm
    by_cases h100 : n ≤ 100
    · have b100 : decide ((n : Int) > 100) = false := decide_eq_false (by omega)
      go_upto_region 5 with (go_at_call 11; refine KM1.out.mono ?_; rintro en w2 ⟨rfl, hg2⟩; have HB2 := Lib.hid (HB1.out.trans (⟨hg2.os, hg2.tape, hg2.output, hg2.size, fun i hi => hg2.block i (Nat.lt_of_lt_of_le hi HB1.out.size) (by simp)⟩ : Below W.heap.size w1 w2)); clear hg2)
      clear c0 c1 c2 c3 c4 c5 b100
      obtain ⟨c0, c1, c2, c3, c4, c5⟩ := LC.out w2 HB2.out
      (try dsimp only at c0 c1 c2 c3 c4 c5)
      have KN := Lib.hid (new_calls w2 a b c d e f HM.out)
      go_upto_region 6 with (go_at_call 8; refine KN.out.mono ?_; rintro en w3 ⟨g, bm, rfl, hT3, hg3, hbm3, hgr3⟩; have HB3 := Lib.hid (HB2.out.trans (⟨hgr3.os, hgr3.tape, hgr3.output, hgr3.size, fun i hi => hgr3.block i (Nat.lt_of_lt_of_le hi HB2.out.size) (by simp)⟩ : Below W.heap.size w2 w3)); have HG := Lib.hid (show W.heap.size ≤ g ∧ W.heap.size ≤ bm by have := HB2.out.size; omega); have HT3 := Lib.hid hT3; clear hT3 hg3 hbm3 hgr3)
      clear c0 c1 c2 c3 c4 c5
      obtain ⟨W4, hW4⟩ : ∃ W4, w3.alloc (.cells #[.pointer (some ⟨g, 0, none⟩)] 26) = W4 := ⟨_, rfl⟩
      have hb4 : Below w3.heap.size w3 W4 := by rw [← hW4]; exact (Below.refl _ _).alloc (Nat.le_refl _) _
      have hs4 : W4.heap.size = w3.heap.size + 1 := by rw [← hW4]; simp
      have hB7 : Boxed W4 w3.heap.size 26 (.pointer (some ⟨g, 0, none⟩)) := by rw [← hW4]; exact Boxed.new w3 _ _
      rw [hW4]
      have HT4 := Lib.hid (tab_kept HT3.out hb4)
      have HB4 := Lib.hid (HB3.out.trans (hb4.mono HB3.out.size))
      have HNE := Lib.hid (show g < w3.heap.size ∧ bm < w3.heap.size ∧ W.heap.size ≤ w3.heap.size ∧ W4.heap.size = w3.heap.size + 1 from ⟨HT3.out.lt.1, HT3.out.lt.2, HB3.out.size, hs4⟩)
      have HB7 := Lib.hid hB7
      have c7 := hB7.cell
      clear hW4 hb4 hs4 hB7
      go_upto_region 8 with fail
      clear c7
      go_wp2
      go_loopw [9] (fun v9 wr => ∃ (i : Nat) (L : List HeldP) (n' : Nat), v9 = .int .i64 i ∧ i ≤ n ∧ n' ≤ i ∧ Hid (TabAt wr g bm n' (a, b, c, d, e, f) L 0) ∧ Hid (OInv (a, b, c, d, e, f) L) ∧ Hid (Touch g bm W4 wr)) (fun v9 _ => n - (intOf v9).toNat)
      case atStart => exact ⟨0, [], 0, rfl, Nat.zero_le _, Nat.le_refl _, HT4, Lib.hid (oinv_start HM.out), Lib.hid (Touch.refl _ _ _)⟩
      case round =>
        obtain ⟨i, L, n', rfl, hik, hni, HTr, HO, HTo⟩ := hrel
        have HBr := Lib.hid (Touch.below HB4.out HTo.out HG.out.1 HG.out.2 HB4.out.size)
        have HB7r := Lib.hid (show Boxed wr w3.heap.size 26 (.pointer (some ⟨g, 0, none⟩)) from (HTo.out.2.2.2.2 _ (by have := HNE.out; omega) (by have := HNE.out; omega) (by have := HNE.out; omega)).trans HB7.out)
        have c7 := HB7r.out.cell
        by_cases hlt : i < n
        · have b1 : decide ((i : Int) < (n : Int)) = true := decide_eq_true (by omega)
          have hltI : (i : Int) < (n : Int) := by omega
          obtain ⟨ad, rfl, hx⟩ := cell_of_C (Kd.C_below HR.out (HBW.out.trans (HBr.out.mono (by have := HS2.out; omega)))) i (by rw [HN.out]; exact hlt) rfl
          obtain ⟨x, hx2⟩ : ∃ x, ps[i]'(by rw [HN.out]; exact hlt) = x := ⟨_, rfl⟩
          have hxb := HB.out x (by rw [← hx2]; exact List.getElem_mem _)
          rw [hx2] at hx
          clear hx2
          obtain ⟨p, hp⟩ : ∃ p, 1 + x = p := ⟨_, rfl⟩
          have hp1 : 1 ≤ p ∧ p ≤ 256 := by omega
          have HTU := Lib.hid (HTr.out.step (drew_grown wr))
          have KR := res_calls wr.drew g bm n' (a, b, c, d, e, f) L 0 0 p p HTU.out (by unfold okRes; omega) HO.out.1 (by omega) (by have := HO.out.2.1; have := (mayL_iff _).1 HM.out; omega) (life_ok HM.out) (by decide)
          rw [oinv_over HM.out HO.out] at KR
          have HS := Lib.hid (oinv_step HO.out p hp1.1 hp1.2)
          obtain ⟨⟨ru, rc, rL⟩, hres⟩ : ∃ r, resG (a, b, c, d, e, f) L 0 p p = r := ⟨_, rfl⟩
          rw [hres] at KR HS
          dsimp only at KR HS
          have KRH := Lib.hid KR
          have hw0 : IntKind.i64.wrap x = x := IntWalk.i64_in _ (by omega)
          have hw1 : IntKind.i64.wrap (1 + x) = p := by rw [hp]; exact IntWalk.i64_in _ (by omega)
          have hw2 : IntKind.u32.wrap p = p := IntWalk.u32_in _ (by omega)
          clear hres hp KR
          go_wp2
          go_still_tail 14, (by kernel_rfl)
          change wpList _ _ _ _ _ wr.drew
          obtain ⟨U, hU⟩ : ∃ U, wr.drew = U := ⟨_, rfl⟩
          have HgU := Lib.hid (show wr.grownBy U none by rw [← hU]; exact drew_grown wr)
          rw [hU] at KRH HTU
          rw [hU]
          clear hU hltI hx hw0 hw1 hw2
          have hw3 : wrap64 ((i : Int) + 1) = ((i + 1 : Nat) : Int) := w64_succ' i (by omega)
          go_wp2_with (go_at_call 10; (with_reducible refine KRH.out.mono ?_); rintro en w5 ⟨n5, hn5, rfl, hT5, ht5⟩)
          go_roundw
          case rel => exact ⟨i + 1, rL, n5, by go_num, Nat.succ_le_of_lt hlt, Nat.le_trans hn5 (Nat.succ_le_succ hni), Lib.hid hT5, HS, Lib.hid ((HTo.out.trans (Touch.grown HgU.out)).trans ht5)⟩
          case measure => simp [intOf]; omega
        · have b1 : decide ((i : Int) < (n : Int)) = false := decide_eq_false (by omega)
          have HTw := Lib.hid HTr.out.lt
          have HSZ := Lib.hid HBr.out.size
          go_upto_region 14 with fail
          obtain ⟨W5, hW5⟩ : ∃ X, wr.alloc (.cells #[.int .i64 0] 3) = X := ⟨_, rfl⟩
          obtain ⟨W6, hW6⟩ : ∃ X, W5.alloc (.cells #[.int .i64 0] 3) = X := ⟨_, rfl⟩
          have hb5 : Below wr.heap.size wr W5 := by rw [← hW5]; exact (Below.refl _ _).alloc (Nat.le_refl _) _
          have hb6 : Below W5.heap.size W5 W6 := by rw [← hW6]; exact (Below.refl _ _).alloc (Nat.le_refl _) _
          have hs5 : W5.heap.size = wr.heap.size + 1 := by rw [← hW5]; simp
          have hs6 : W6.heap.size = wr.heap.size + 2 := by rw [← hW6]; simp; omega
          have B10 : Boxed W6 wr.heap.size 3 (.int .i64 0) := (hb6.block _ (by omega)).trans (by rw [← hW5]; exact Boxed.new wr _ _)
          have B11 : Boxed W6 W5.heap.size 3 (.int .i64 0) := by rw [← hW6]; exact Boxed.new W5 _ _
          have B7 : Boxed W6 w3.heap.size 26 (.pointer (some ⟨g, 0, none⟩)) := (hb6.block _ (by have := HNE.out; have := HTo.out.2.2.2.1; omega)).trans ((hb5.block _ (by have := HNE.out; have := HTo.out.2.2.2.1; omega)).trans HB7r.out)
          have hT6 := tab_kept (tab_kept HTr.out hb5) hb6
          have hln : L.length ≤ 100 := by have h1 := HO.out.2.1; have h2 := (mayL_iff _).1 HM.out; omega
          have KA := all_calls W6 g bm n' (a, b, c, d, e, f) L 0 0 hT6 HO.out.1 (by omega)
          rw [show onT 0 0 = 0 from rfl, oinv_over HM.out HO.out] at KA
          have KAH := Lib.hid KA
          have HW6 := Lib.hid (show wr.heap.size + 2 = W6.heap.size ∧ W5.heap.size = wr.heap.size + 1 from ⟨hs6.symm, hs5⟩)
          have HB6 := Lib.hid (HBr.out.trans ((hb5.trans (hb6.mono (by omega))).mono HSZ.out))
          have HB10 := Lib.hid B10
          have HB11 := Lib.hid B11
          have HB7s := Lib.hid B7
          rw [hW5, hW6]
          clear c7
          have c7 := B7.cell
          clear hW5 hW6 hb5 hb6 hs5 hs6 B10 B11 B7 hT6 KA
          go_wp2_with (go_at_call 9; refine KAH.out.mono ?_; rintro en w7 ⟨p1, p2, b2, rfl, hA7, hT7, ht7⟩)
          obtain ⟨A7, m7, cc7, a1, hm7, hrow7, a2, hown7, hp1, hp2, hb2⟩ := hA7
          subst hm7
          have hN6 := HNE.out
          have h66 := HW6.out
          have hTs := ht7.2.2.2.1
          have hTo4 := HTo.out.2.2.2.1
          have hHG := HG.out
          have hTw := HTw.out
          have hSZ := HSZ.out
          have hp1l : p1 < w7.heap.size := World.block_lt_of_cell? _ _ a1
          have hp2l : p2 < w7.heap.size := World.block_lt_of_cell? _ _ a2
          have hb2l := hown7.lt
          have b7 : Boxed w7 w3.heap.size 26 (.pointer (some ⟨g, 0, none⟩)) := (ht7.2.2.2.2 _ (by omega) (by omega) (by omega)).trans HB7s.out
          have b10 : Boxed w7 wr.heap.size 3 (.int .i64 0) := (ht7.2.2.2.2 _ (by omega) (by omega) (by omega)).trans HB10.out
          have b11 : Boxed w7 (wr.heap.size + 1) 3 (.int .i64 0) := (ht7.2.2.2.2 _ (by omega) (by omega) (by omega)).trans (by have h := HB11.out; rw [h66.2] at h; exact h)
          have hB7 : Below W.heap.size W w7 := Touch.below HB6.out ht7 hHG.1 hHG.2 (by omega)
          have hrc := row_cells hrow7
          obtain ⟨S, hS⟩ : ∃ S : Nat → Prop, S = fun b => b < w7.heap.size ∧ b ≠ g ∧ b ≠ bm ∧ b ≠ wr.heap.size ∧ b ≠ wr.heap.size + 1 := ⟨_, rfl⟩
          have hSlt : ∀ b, S b → b < w7.heap.size := fun b hb => by rw [hS] at hb; exact hb.1
          have hSg : ∀ b, S b → b ≠ g ∧ b ≠ bm := fun b hb => by rw [hS] at hb; exact ⟨hb.2.1, hb.2.2.1⟩
          have hSn : ¬ S wr.heap.size ∧ ¬ S (wr.heap.size + 1) := by rw [hS]; exact ⟨fun hb => hb.2.2.2.1 rfl, fun hb => hb.2.2.2.2 rfl⟩
          have hSy : ∀ b, b < w7.heap.size → b ≠ g → b ≠ bm → b ≠ wr.heap.size → b ≠ wr.heap.size + 1 → S b := fun b h1 h2 h3 h4 h5 => by rw [hS]; exact ⟨h1, h2, h3, h4, h5⟩
          clear hS
          have seq := all_told 7 (by omega) S p1 p2 b2 n' A7 cc7 L w7 (hSy p1 hp1l (by omega) (by omega) (by omega) (by omega)) (hSy p2 hp2l (by omega) (by omega) (by omega) (by omega)) (hSy b2 hb2l (by omega) (by omega) (by omega) (by omega)) hSlt a1 a2 hown7 HO.out.1 (by omega)
            (fun q hq => by have := HO.out.2.2 q hq; unfold I64; omega)
            (fun V hV j hj => by
              rcases hrc with h0 | ⟨gr, hA, hgr, hgl, hX⟩
              · omega
              · exact ⟨_, hA, hX V (hV.2 gr (hSy gr hgl (by omega) (by omega) (by omega) (by omega))) j hj⟩)
          refine (wpIn_wide (n := 8)).1 ?_
          refine range_told_box rfl (by omega) (gf := 17) (lb := #[.pointer (some ⟨p1, 0, none⟩), .pointer (some ⟨p2, 0, none⟩)]) rfl trivial (enters_of Try.func17 (by kernel_rfl) rfl)
            seq KeepS.trans (fun W l o o' hl h _ _ => KeepS.put W l o o' (fun hb => by have := hSlt l hb; omega) h) (Below.refl _ _) (fun _ => rfl) (fun _ _ _ _ _ _ _ _ h => h)
            (fun q => .cells (heldC q) 38) (fun V q hV => KeepS.below ((Below.refl _ V).alloc (Nat.le_refl _) _) (fun b hb => by have := hSlt b hb; omega)) (fun _ _ _ h => h)
            (fun pre V => KeepS S w7 V ∧ TabAt V g bm n' (a, b, c, d, e, f) L 0 ∧ Boxed V wr.heap.size 3 (.int .i64 (lastP pre)) ∧ Boxed V (wr.heap.size + 1) 3 (.int .i64 pre.length) ∧ Below W.heap.size W V)
            ?hI ?h0 ?a1 ?assign ?body ?done
          case assign =>
            intro l x W B K hB hK
            dsimp only [encsH, heldC] at hK ⊢
            gi_wp2
            exact hK
          case hI =>
            rintro s X Y row ⟨h1, h2, h3, h4, h5⟩ hg hr
            exact ⟨h1.grown hSlt hg (fun r e hb => by have := (hr r e).1; have := hSlt r hb; omega), tab_own h2 hg (fun r e => by have := (hr r e).1; omega), boxed_own2 h3 hg (fun r e => (hr r e).2), boxed_own2 h4 hg (fun r e => (hr r e).2), h5.grown hg h5.size (fun k e => by have := (hr k e).1; have := hB7.size; omega)⟩
          case h0 => exact ⟨KeepS.refl _ _, hT7, b10, b11, hB7⟩
          case body =>
            rintro lp pre x B V hB hbx ⟨hk, hT, b10, b11, hbl⟩ ⟨r, hr⟩
            have hx : x ∈ L := by rw [← hr]; simp
            have hmem := HO.out.2.2 x hx
            have hlast := last_lt HO.out.1 (fun y hy => (HO.out.2.2 y hy).1) hr
            have hhas := has_mem hx
            obtain ⟨z, hz⟩ : ∃ z, lastP pre = z := ⟨_, rfl⟩
            have hpl : pre.length < 100 := by have h := congrArg List.length hr; rw [List.length_append, List.length_cons] at h; omega
            obtain ⟨j, hj⟩ : ∃ j, pre.length = j := ⟨_, rfl⟩
            rw [hz] at b10 hlast
            rw [hj] at b11 hpl
            have HJ := Lib.hid hj
            have Hk := Lib.hid hk
            have HSn := Lib.hid hSn
            have HSg := Lib.hid hSg
            have HSl := Lib.hid hSlt
            obtain ⟨xp, xh, xu⟩ := x
            obtain ⟨m1, m2, m3, m4⟩ := hmem
            dsimp only at m1 m2 m3 hlast hhas
            have m3 := m3.symm
            subst m3
            have KH := has_calls V g bm n' (a, b, c, d, e, f) L 0 0 xp hT ⟨by omega, by omega⟩
            rw [show onT 0 0 = 0 from rfl, oinv_over HM.out HO.out, hhas] at KH
            have KHH := Lib.hid KH
            obtain ⟨f0, f1, f2⟩ := held_cells hbx
            have b7V : Boxed V w3.heap.size 26 (.pointer (some ⟨g, 0, none⟩)) := (hk.2 _ (hSy _ (by omega) (by omega) (by omega) (by omega) (by omega))).trans b7
            have c7 := b7V.cell
            have HBX := Lib.hid hbx
            have HGB := Lib.hid (show g < w7.heap.size ∧ bm < w7.heap.size ∧ w7.heap.size ≤ B ∧ W.heap.size ≤ g ∧ W.heap.size ≤ bm ∧ W.heap.size ≤ wr.heap.size ∧ wr.heap.size + 1 < w7.heap.size ∧ w7.heap.size ≤ V.heap.size ∧ B < V.heap.size ∧ g < wr.heap.size ∧ bm < wr.heap.size from ⟨by omega, by omega, hB, hHG.1, hHG.2, hSZ, by omega, hk.1, (Array.getElem?_eq_some_iff.1 hbx).1, hTw.1, hTw.2⟩)
            have B10 := Lib.hid b10
            have B11 := Lib.hid b11
            have HBL := Lib.hid hbl
            have Hm := Lib.hid (show 1 ≤ xp ∧ xp ≤ 256 ∧ z < xp ∧ j < 100 ∧ lastP pre = z from ⟨m1, m2, hlast, hpl, hz⟩)
            have g1 : decide (xp ≤ z) = false := decide_eq_false (by omega)
            have g2 : (xp != xp) = false := by simp
            have hw1 : wrap64 xp = xp := by unfold wrap64; omega
            have hw2 : wrap64 ((j : Int) + 1) = ((j + 1 : Nat) : Int) := w64_succ' j (by omega)
            clear hk hSn hSg hSy hSlt seq hj hz hrc hrow7 hown7 a1 a2 ht7 hT7 b7 b10 b11 hB7 hp1 hp2 hb2 hp1l hp2l hb2l hHG hTw hSZ hTo4 hTs h66 hN6 hT hbx KH b7V hbl hx hr hhas m1 m2 hlast hpl hB m4
            gi_wp2_with (refine ⟨trivial, ?_⟩; gi_at_call 12; refine (CallsIn.inRound lp (callsIn_wide.2 KHH.out)).mono ?_; rintro en w8 ⟨rfl, hT8, ht8⟩; have hgb := HGB.out; have x0 := (ht8.2.2.2.2 B (by omega) (by omega) (by omega)).trans HBX.out; obtain ⟨e0, e1, e2⟩ := held_cells x0; have d10 : Boxed w8 wr.heap.size 3 (.int .i64 z) := (ht8.2.2.2.2 _ (by omega) (by omega) (by omega)).trans B10.out; have d11 : Boxed w8 (wr.heap.size + 1) 3 (.int .i64 j) := (ht8.2.2.2.2 _ (by omega) (by omega) (by omega)).trans B11.out; have HT8 := Lib.hid hT8; have Ht8 := Lib.hid ht8; have D10 := Lib.hid d10; have D11 := Lib.hid d11; have c10 := d10.cell; have x10 := d10.frozen; have c11 := d11.cell; have x11 := d11.frozen; clear x0 d10 d11 hT8 ht8 hgb f0 f1 f2 c7)
            have hgb := HGB.out
            have hm := Hm.out
            have hkS : KeepS S V w8 := touch_keepS Ht8.out HSg.out (fun k hk => Nat.lt_of_lt_of_le (HSl.out k hk) hgb.2.2.2.2.2.2.2.1)
            have hkS2 := (hkS.trans (KeepS.setCell (p := ⟨wr.heap.size, 0, none⟩) HSn.out.1 (.int .i64 xp))).trans (KeepS.setCell (p := ⟨wr.heap.size + 1, 0, none⟩) HSn.out.2 (.int .i64 ((j : Int) + 1)))
            refine ⟨(touch_from Ht8.out hgb.1 hgb.2.1).trans (((KeepsOthers.setCell _ _ _).trans (KeepsOthers.setCell _ _ _)).from _), hkS2, Hk.out.trans hkS2, tab_set (tab_set HT8.out _ ?_ ?_) _ ?_ ?_, ?_, ?_, ?_⟩
            · show g ≠ wr.heap.size; omega
            · show bm ≠ wr.heap.size; omega
            · show g ≠ wr.heap.size + 1; omega
            · show bm ≠ wr.heap.size + 1; omega
            · rw [lastP_snoc]; exact boxed_set (D10.out.set _) (by show wr.heap.size ≠ wr.heap.size + 1; omega)
            · rw [HJ.out]; exact (boxed_set D11.out (by show wr.heap.size + 1 ≠ wr.heap.size; omega)).set _
            · exact (((Touch.below HBL.out Ht8.out (by omega) (by omega) (by omega)).setCell (p := ⟨wr.heap.size, 0, none⟩) (by show W.heap.size ≤ wr.heap.size; omega) _).setCell (p := ⟨wr.heap.size + 1, 0, none⟩) (by show W.heap.size ≤ wr.heap.size + 1; omega) _)
          case done =>
            rintro D xs V hD hxs ⟨hk, hT, b10, b11, hbl⟩ hK2
            have hxs : xs = L := hxs
            have HKD := Lib.hid hK2
            rw [hxs] at b10 b11
            clear hxs hK2 seq hrc hrow7 hown7 a1 a2 hT7 ht7
            have hDl : D < V.heap.size := (Array.getElem?_eq_some_iff.1 HKD.out).1
            have hVs := hk.1
            have b7V : Boxed V w3.heap.size 26 (.pointer (some ⟨g, 0, none⟩)) := (hk.2 _ (hSy _ (by omega) (by omega) (by omega) (by omega) (by omega))).trans b7
            have HS' := Lib.hid (show g < w7.heap.size ∧ bm < w7.heap.size ∧ wr.heap.size + 1 < w7.heap.size ∧ W.heap.size ≤ g ∧ W.heap.size ≤ bm ∧ W.heap.size ≤ wr.heap.size ∧ w7.heap.size ≤ V.heap.size ∧ w7.heap.size ≤ D ∧ D < V.heap.size ∧ w3.heap.size < w7.heap.size ∧ g < w3.heap.size ∧ bm < w3.heap.size ∧ w3.heap.size < wr.heap.size from ⟨by omega, by omega, by omega, hHG.1, hHG.2, hSZ, hVs, hD, hDl, by omega, by omega, by omega, by omega⟩)
            clear hp1 hp2 hb2 hN6 h66 hTs hTo4 hHG hTw hSZ hp1l hp2l hb2l b7 hB7 hSlt hSg hSn hSy hk c7 hD hDl hVs
            go_upto_region 22 with fail
            obtain ⟨V1, hV1⟩ : ∃ X, V.alloc (.cells #[.int .i64 0] 3) = X := ⟨_, rfl⟩
            have hb1 : Below V.heap.size V V1 := by rw [← hV1]; exact (Below.refl _ _).alloc (Nat.le_refl _) _
            have hs1 : V1.heap.size = V.heap.size + 1 := by rw [← hV1]; simp
            have B15 : Boxed V1 V.heap.size 3 (.int .i64 0) := by rw [← hV1]; exact Boxed.new V _ _
            have hT1 := tab_kept hT hb1
            have hS' := HS'.out
            have d7 := (hb1.block w3.heap.size (by omega)).trans b7V
            have d10 := (hb1.block wr.heap.size (by omega)).trans b10
            have d11 := (hb1.block (wr.heap.size + 1) (by omega)).trans b11
            have KA := all_calls V1 g bm n' (a, b, c, d, e, f) L 0 0 hT1 HO.out.1 (by omega)
            rw [show onT 0 0 = 0 from rfl, oinv_over HM.out HO.out] at KA
            have KAH2 := Lib.hid KA
            rw [hV1]
            have c7 := Boxed.cell d7
            have HT1 := Lib.hid hT1
            have HB1V := Lib.hid (hbl.trans (hb1.mono hbl.size))
            have HD1 := Lib.hid ((hb1.block D (by omega)).trans HKD.out)
            have D11 := Lib.hid d11
            have B15H := Lib.hid B15
            have HS1 := Lib.hid hs1
            clear hV1 hb1 hs1 B15 hT hT1 KA b10 b11 b7V d7 d10 d11 hbl hS'
            go_wp2_with (go_at_call 9; refine KAH2.out.mono ?_; rintro en w9 ⟨q1, q2, bb2, rfl, hA9, hT9, ht9⟩)
            obtain ⟨A9, m9, cc9, a1, hm9, hrow9, a2, hown9, hp1, hp2, hb2⟩ := hA9
            subst hm9
            have hS' := HS'.out
            have hs1 := HS1.out
            have hTs := ht9.2.2.2.1
            have hsW := HS2.out
            have hp1l : q1 < w9.heap.size := World.block_lt_of_cell? _ _ a1
            have hp2l : q2 < w9.heap.size := World.block_lt_of_cell? _ _ a2
            have hb2l := hown9.lt
            have hB9 : Below W.heap.size W w9 := Touch.below HB1V.out ht9 (by omega) (by omega) (by omega)
            have b15 : Boxed w9 V.heap.size 3 (.int .i64 0) := (ht9.2.2.2.2 _ (by omega) (by omega) (by omega)).trans B15H.out
            have b11 : Boxed w9 (wr.heap.size + 1) 3 (.int .i64 L.length) := (ht9.2.2.2.2 _ (by omega) (by omega) (by omega)).trans D11.out
            have b5 : Boxed w9 W0.heap.size 5 (.int .u8 stop) := (hB9.block _ (by omega)).trans HBS.out
            have b6 : Boxed w9 W1.heap.size 4 (.bool false) := (hB9.block _ (by omega)).trans HBR.out
            have hd9 : w9.heap[D]? = some (.deferred (some [])) := (ht9.2.2.2.2 _ (by omega) (by omega) (by omega)).trans HD1.out
            have hrc := row_cells hrow9
            obtain ⟨S2, hS2⟩ : ∃ S2 : Nat → Prop, S2 = fun b => b < w9.heap.size ∧ b ≠ V.heap.size := ⟨_, rfl⟩
            have hSlt : ∀ b, S2 b → b < w9.heap.size := fun b hb => by rw [hS2] at hb; exact hb.1
            have hSn : ¬ S2 V.heap.size := by rw [hS2]; exact fun hb => hb.2 rfl
            have hSy : ∀ b, b < w9.heap.size → b ≠ V.heap.size → S2 b := fun b h1 h2 => by rw [hS2]; exact ⟨h1, h2⟩
            clear hS2
            have seq := all_stops 7 (by omega) S2 q1 q2 bb2 n' A9 cc9 L w9 (hSy q1 hp1l (by omega)) (hSy q2 hp2l (by omega)) (hSy bb2 hb2l (by omega)) hSlt a1 a2 hown9 HO.out.1 (by omega)
              (fun q hq => by have := HO.out.2.2 q hq; unfold I64; omega)
              (fun V hV j hj => by
                rcases hrc with h0 | ⟨gr, hA, hgr, hgl, hX⟩
                · omega
                · exact ⟨_, hA, hX V (hV.2 gr (hSy gr hgl (by omega))) j hj⟩)
            have HHS := Lib.hid hs
            refine (wpIn_wide (n := 8)).1 (wpIn_join 4 (fun D2 X => (∃ j : Nat, Boxed X V.heap.size 3 (.int .i64 j) ∧ (j = L.length ∨ (j : Int) = stop)) ∧ KeepS S2 w9 X ∧ Below W.heap.size W X ∧ w9.heap.size ≤ D2 ∧ X.heap[D2]? = some (.deferred (some []))) ?_ ?_ ?_)
            · refine wpIn_rangeFunc_ownF rfl (by omega) (gf := 17) (lb := #[.pointer (some ⟨q1, 0, none⟩), .pointer (some ⟨q2, 0, none⟩)]) rfl trivial (enters_of Try.func17 (by kernel_rfl) rfl)
                seq KeepS.trans (fun W l o o' hl h _ _ => KeepS.put W l o o' (fun hb => by have := hSlt l hb; omega) h) (Below.refl _ _) (fun _ => rfl)
                (fun pre X => (stop = 0 ∨ (pre.length : Int) < stop) ∧ KeepS S2 w9 X ∧ Boxed X V.heap.size 3 (.int .i64 pre.length) ∧ Below W.heap.size W X)
                (fun c pre X => c = .exit 4 ∧ (pre.length : Int) = stop ∧ KeepS S2 w9 X ∧ Boxed X V.heap.size 3 (.int .i64 pre.length) ∧ Below W.heap.size W X)
                ?hI2 ?hIx2 ?h02 ?a12 ?assign2 ?body2 ?done2 ?stop2
              case assign2 =>
                intro l x W K hK
                gi_wp2
                exact hK
              case hI2 =>
                rintro s X Y row ⟨h1, h2, h3, h4⟩ hg hr
                exact ⟨h1, h2.grown hSlt hg (fun r e hb => by have := (hr r e).1; have := hSlt r hb; omega), boxed_own2 h3 hg (fun r e => (hr r e).2), h4.grown hg h4.size (fun k e => by have := (hr k e).1; have := hB9.size; omega)⟩
              case hIx2 =>
                rintro cc s X Y row ⟨h0, h1, h2, h3, h4⟩ hg hr
                exact ⟨h0, h1, h2.grown hSlt hg (fun r e hb => by have := (hr r e).1; have := hSlt r hb; omega), boxed_own2 h3 hg (fun r e => (hr r e).2), h4.grown hg h4.size (fun k e => by have := (hr k e).1; have := hB9.size; omega)⟩
              case h02 =>
                have := HHS.out
                exact ⟨by simp; omega, KeepS.refl _ _, b15, hB9⟩
              case body2 =>
                rintro l pre x X ⟨hpl, hk, b9, hbl⟩ hltp
                have hx5 := hk.boxed (hSy _ (by omega) (by omega)) b5
                have Hk := Lib.hid hk
                have HSn := Lib.hid hSn
                have HNE2 := Lib.hid (show W.heap.size ≤ V.heap.size by omega)
                obtain ⟨j, hj⟩ : ∃ j, pre.length = j := ⟨_, rfl⟩
                rw [hj] at hpl b9 hltp
                have Hj := Lib.hid hj
                have HBL := Lib.hid hbl
                have hwj : wrap64 ((j : Int) + 1) = (j : Int) + 1 := w64_at j hltp
                have hws : wrap64 stop = stop := by have := HHS.out; unfold wrap64; omega
                have hn5 : W0.heap.size < V.heap.size := by omega
                have c5 := hx5.cell
                have c9 := b9.cell
                have f9 := b9.frozen
                have B9 := Lib.hid b9
                clear hltp hk hSn hSy hSlt seq b15 b11 b5 b6 hj hx5 hrc hrow9 hown9 a1 a2 ht9 hT9 hB9 hp1 hp2 hb2 hp1l hp2l hb2l hS' hs1 hTs hsW hs hd9 hbl
                by_cases h3 : (j : Int) + 1 = stop
                · have h3b : ((j : Int) + 1 == stop) = true := by simpa using h3
                  have H3 := Lib.hid h3
                  clear h3 hpl
                  gi_wp2
                  refine ⟨KeepsOthers.setCell _ _ _, rfl, ?_, Hk.out.trans (KeepS.setCell HSn.out _), ?_, HBL.out.setCell (p := ⟨V.heap.size, 0, none⟩) HNE2.out _⟩
                  · rw [List.length_append, Hj.out]; simpa using H3.out
                  · rw [List.length_append, Hj.out]; exact B9.out.set _
                · have h3b : ((j : Int) + 1 == stop) = false := by simpa using h3
                  have H3 := Lib.hid (show stop = 0 ∨ (j : Int) + 1 < stop by omega)
                  clear h3 hpl
                  gi_wp2
                  refine ⟨KeepsOthers.setCell _ _ _, KeepS.setCell HSn.out _, ?_, Hk.out.trans (KeepS.setCell HSn.out _), ?_, HBL.out.setCell (p := ⟨V.heap.size, 0, none⟩) HNE2.out _⟩
                  · rw [List.length_append, Hj.out]; simpa using H3.out
                  · rw [List.length_append, Hj.out]; exact B9.out.set _
              case done2 =>
                rintro D2 xs X hD hxs ⟨hpl, hk, b9, hbl⟩ hK
                have hxs : xs = L := hxs
                exact ⟨.inl rfl, D2, rfl, ⟨_, b9, .inl (by rw [hxs])⟩, hk, hbl, hD, hK⟩
              case stop2 =>
                rintro D2 c pre X hD hS ⟨rfl, hp, hk, b9, hbl⟩ hK
                clear hsW
                gi_wp2
                exact ⟨_, b9, .inr hp⟩
            · rintro D2 X ⟨⟨j, b9, hj⟩, hk, hbl, hD2, hK2⟩
              have x11 := hk.boxed (hSy _ (by omega) (by omega)) b11
              have x5 := hk.boxed (hSy _ (by omega) (by omega)) b5
              have x6 := hk.boxed (hSy _ (by omega) (by omega)) b6
              have xd := (hk.2 D (hSy _ (by omega) (by omega))).trans hd9
              have HXD := Lib.hid xd
              have HK2 := Lib.hid hK2
              have X6 := Lib.hid x6
              have HBX := Lib.hid hbl
              have HDD := Lib.hid (show D < D2 ∧ w.heap.size ≤ D ∧ W1.heap.size = w.heap.size + 2 ∧ w.heap.size ≤ W.heap.size by omega)
              have HOV := Lib.hid HO.out.2.1
              obtain ⟨c0, c1, c2, c3, c4, c5⟩ := LC.out X hbl
              have q1 : decide ((L.length : Int) ≤ a) = true := decide_eq_true HOV.out
              have y11 := x11.cell
              have y5 := x5.cell
              have y15 := b9.cell
              have y6 := x6.cell
              have z6 := x6.frozen
              have hws : wrap64 stop = stop := by have := HHS.out; unfold wrap64; omega
              (try dsimp only at c0 c1 c2 c3 c4 c5)
              clear x11 x5 x6 xd hK2 hk hbl hD2 b9 hSn hSy hSlt seq b15 b11 b5 b6 hrc hrow9 hown9 a1 a2 ht9 hT9 hB9 hp1 hp2 hb2 hp1l hp2l hb2l hS' hs1 hTs hsW hs hd9 hln
              obtain ⟨ln, hlq⟩ : ∃ ln, L.length = ln := ⟨_, rfl⟩
              rw [hlq] at q1 y11 hj
              clear hlq
              by_cases hjl : j = ln
              · subst hjl
                have q2 : ((j : Int) == (j : Int)) = true := by simp
                have q3 : (j == j) = true := by simp
                clear hj
                go_wp2
                have hK' := (KeepsOthers.setCell X ⟨W1.heap.size, 0, none⟩ (.bool true)).same D2 _ HK2.out rfl
                have hD' := (KeepsOthers.setCell X ⟨W1.heap.size, 0, none⟩ (.bool true)).same D _ HXD.out rfl
                have hDD : ((X.setCell ⟨W1.heap.size, 0, none⟩ (.bool true)).putObj D2 (.deferred none)).heap[D]? = some (.deferred (some [])) := ((grownBy_putObj' _ D2 (.deferred none)).block D (Array.getElem?_eq_some_iff.1 hD').1 (fun e => by cases e; have := HDD.out; omega)).trans hD'
                refine ⟨by simp, .inl ⟨_, _, rfl, run_takeDeferred hK', ?_⟩⟩
                refine ⟨by simp, .inl ⟨_, _, rfl, run_takeDeferred hDD, ?_⟩⟩
                have hc5 := boxed_own2 (X6.out.set (.bool true)) (grownBy_putObj' _ D2 (.deferred none)) (fun r e => by cases e; exact ⟨_, hK', rfl⟩)
                have hc6 := (boxed_own2 hc5 (grownBy_putObj' _ D (.deferred none)) (fun r e => by cases e; exact ⟨_, hDD, rfl⟩)).cell
                have hdd := HDD.out
                refine ⟨.bool true, ?_, rfl, (((HBW.out.trans (HBX.out.mono (by omega))).setCell (p := ⟨W1.heap.size, 0, none⟩) (by show w.heap.size ≤ W1.heap.size; omega) _).trans (belowK_b (w := w) (Nat.le_refl _) _ D2 _ _ (by omega) hK' rfl rfl)).trans (belowK_b (w := w) (Nat.le_refl _) _ D _ _ (by omega) hDD rfl rfl)⟩
                simp [results, Try.f6, go_sem, hc6]
              · have hjs : (j : Int) = stop := hj.resolve_left hjl
                have q2 : ((j : Int) == (ln : Int)) = false := by rw [beq_eq_false_iff_ne]; omega
                have q3 : (j == ln) = false := by rw [beq_eq_false_iff_ne]; exact hjl
                have q4 : ((j : Int) == stop) = true := by simpa using hjs
                clear hj hjs hjl
                go_wp2
                have hK' := (KeepsOthers.setCell X ⟨W1.heap.size, 0, none⟩ (.bool true)).same D2 _ HK2.out rfl
                have hD' := (KeepsOthers.setCell X ⟨W1.heap.size, 0, none⟩ (.bool true)).same D _ HXD.out rfl
                have hDD : ((X.setCell ⟨W1.heap.size, 0, none⟩ (.bool true)).putObj D2 (.deferred none)).heap[D]? = some (.deferred (some [])) := ((grownBy_putObj' _ D2 (.deferred none)).block D (Array.getElem?_eq_some_iff.1 hD').1 (fun e => by cases e; have := HDD.out; omega)).trans hD'
                refine ⟨by simp, .inl ⟨_, _, rfl, run_takeDeferred hK', ?_⟩⟩
                refine ⟨by simp, .inl ⟨_, _, rfl, run_takeDeferred hDD, ?_⟩⟩
                have hc5 := boxed_own2 (X6.out.set (.bool true)) (grownBy_putObj' _ D2 (.deferred none)) (fun r e => by cases e; exact ⟨_, hK', rfl⟩)
                have hc6 := (boxed_own2 hc5 (grownBy_putObj' _ D (.deferred none)) (fun r e => by cases e; exact ⟨_, hDD, rfl⟩)).cell
                have hdd := HDD.out
                refine ⟨.bool true, ?_, rfl, (((HBW.out.trans (HBX.out.mono (by omega))).setCell (p := ⟨W1.heap.size, 0, none⟩) (by show w.heap.size ≤ W1.heap.size; omega) _).trans (belowK_b (w := w) (Nat.le_refl _) _ D2 _ _ (by omega) hK' rfl rfl)).trans (belowK_b (w := w) (Nat.le_refl _) _ D _ _ (by omega) hDD rfl rfl)⟩
                simp [results, Try.f6, go_sem, hc6]
            · intro a' W h
              exact h
    · have b100 : decide ((n : Int) > 100) = true := decide_eq_true (by omega)
      have BR1 := (HB1.out.block _ (by have := HS2.out; omega)).trans HBR.out
      have HL1 : W1.heap.size < w1.heap.size := Nat.lt_of_lt_of_le (by have := HS2.out; omega) HB1.out.size
      go_wp2_with (go_at_call 11; refine KM1.out.mono ?_; rintro en w2 ⟨rfl, hg2⟩; have BR2 : Boxed w2 W1.heap.size 4 (.bool false) := (hg2.block W1.heap.size HL1 (by simp)).trans BR1; have c6 := BR2.cell; have f6 := BR2.frozen)
      refine ⟨.bool true, ?_, rfl, HBW.out.trans ((HB1.out.mono (by have := HS2.out; omega)).trans ((Below.mono (⟨hg2.os, hg2.tape, hg2.output, hg2.size, fun i hi => hg2.block i hi (by simp)⟩ : Below w1.heap.size w1 w2) (by have := HB1.out.size; have := HS2.out; omega)).setCell (p := ⟨W1.heap.size, 0, none⟩) (by show w.heap.size ≤ W1.heap.size; have := HS2.out; omega) _))⟩
      have c6' := (BR2.set (.bool true)).cell
      simp [results, Try.f6, go_sem, c6']
end Go.Proofs.Ytglpjoijkinlbaa.Rv
