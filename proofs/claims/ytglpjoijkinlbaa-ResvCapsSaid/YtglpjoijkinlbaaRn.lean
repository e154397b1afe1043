/-
  ResvCount, walked. Conditions: numbers are of their kinds.
-/
import Derived.Test.YtglpjoijkinlbaaRk
import Derived.Test.YtglpjoijkinlbaaRm
namespace Go.Proofs.Ytglpjoijkinlbaa.Rv
open Go.RowKit Go.Maps Go.Shelf Go.Sort Go.Proofs.YtglpjoijkinlbaaW.PrintWords Go.Proofs.YtglpjoijkinlbaaW.PrintLast Go.Proofs.YtglpjoijkinlbaaW.PrintMore
set_option linter.unusedVariables false
set_option linter.unusedSimpArgs false
attribute [local go_sem] Oper.semAt_some max2_int min2_int max_two min_two
theorem lim_cells {V : World} {b : Nat} {l : LimV} (h : V.heap[b]? = some (.cells (limC l) 23 (0, 0))) : V.cell? ⟨b, 0, none⟩ = some (.int .i64 l.1) ∧ V.cell? ⟨b, 1, none⟩ = some (.int .i64 l.2.1) ∧ V.cell? ⟨b, 2, none⟩ = some (.int .i64 l.2.2.1) ∧ V.cell? ⟨b, 3, none⟩ = some (.int .i64 l.2.2.2.1) ∧ V.cell? ⟨b, 4, none⟩ = some (.int .i64 l.2.2.2.2.1) ∧ V.cell? ⟨b, 5, none⟩ = some (.int .i64 l.2.2.2.2.2) :=
  ⟨cell_cellsN h 0 (by simp [limC]), cell_cellsN h 1 (by simp [limC]), cell_cellsN h 2 (by simp [limC]), cell_cellsN h 3 (by simp [limC]), cell_cellsN h 4 (by simp [limC]), cell_cellsN h 5 (by simp [limC])⟩
theorem w64_succ (i : Nat) (h : i ≤ 100) : wrap64 ((i : Int) + 1) = (i : Int) + 1 := by unfold wrap64; omega
theorem w64_succ' (i : Nat) (h : i ≤ 100) : wrap64 ((i : Int) + 1) = ((i + 1 : Nat) : Int) := by unfold wrap64; omega
theorem w64_at (j : Nat) (h : j < 2000000) : wrap64 ((j : Int) + 1) = (j : Int) + 1 := by unfold wrap64; omega
theorem u32_succ (i : Nat) (h : i ≤ 100) : ((i : Int) + 1) % 4294967296 = (i : Int) + 1 := by omega
theorem succ_ne (i : Nat) : ((i : Int) + 1) ≠ 0 := by omega
theorem okRes_at (i : Nat) (host : Int) (h : i ≤ 100) (hh : host ≠ 0) : okRes 0 0 ((i : Int) + 1) host := by unfold okRes; omega
theorem life_ok {l : LimV} (h : mayL l = true) : 0 ≤ l.2.2.2.1 ∧ l.2.2.2.1 ≤ 1099511627776 := by have := ((mayL_iff l).1 h).2.2.2.1; omega
theorem want_true (k a b c d e f ln : Int) (h : ln = mnI k (limF true (a, b, c, d, e, f))) : (if b < (if a < k then a else k) then b else (if a < k then a else k)) = ln := by
  rw [h]
  unfold mnI limF
  simp only [if_true]
  split <;> split <;> split <;> (try split) <;> omega
theorem want_zero (k a b c d e f ln : Int) (hb : b = 0) (h : ln = mnI k (limF false (a, b, c, d, e, f))) : (if b < (if a < k then a else k) then b else (if a < k then a else k)) = ln ∨ a < 0 ∨ k < 0 := by
  rw [h]
  unfold mnI limF
  simp only [if_pos hb, Bool.false_eq_true, if_false]
  by_cases h1 : a < 0
  · exact .inr (.inl h1)
  · by_cases h2 : k < 0
    · exact .inr (.inr h2)
    · left
      split <;> split <;> (try split) <;> omega
theorem want_false (k a b c d e f ln : Int) (hb : b ≠ 0) (h : ln = mnI k (limF false (a, b, c, d, e, f))) : (if a < k then a else k) = ln := by
  rw [h]
  unfold mnI limF
  simp only [if_neg hb, Bool.false_eq_true, if_false]
theorem row_cells {V : World} {base m c : Nat} {A : Option Addr} {L : List HeldP} (h : V.ownsRow base 3 1 (.slice A m c) L.length ((L.map (·.1)).map encZ)) : L.length = 0 ∨ ∃ gr, A = some ⟨gr, 0, none⟩ ∧ base ≤ gr ∧ gr < V.heap.size ∧ ∀ X : World, X.heap[gr]? = V.heap[gr]? → ∀ i (hi : i < L.length), X.cell? ((⟨gr, 0, none⟩ : Addr).add i) = some (.int .i64 L[i].1) := by
  rcases h.2 with ⟨_, h2⟩ | ⟨gr, cap, cur, h1, h2, h3, h4, h5, h6, h7⟩
  · exact .inl h2
  · injection h1 with h1 _ _
    refine .inr ⟨gr, h1, h2, (Array.getElem?_eq_some_iff.1 h3).1, fun X hX i hi => ?_⟩
    have hc : cur.toList[i]? = some (.int .i64 L[i].1) := by
      have : (cur.toList.take (L.length * 1))[i]? = some (.int .i64 L[i].1) := by
        rw [h7]
        simp [hi, encZ]
      rw [List.getElem?_take_of_lt (by omega)] at this
      exact this
    rw [Go.Proofs.YtglpjoijkinlbaaW.PrintWords.add_plain]
    unfold World.cell?
    dsimp only
    rw [hX, h3]
    rw [Array.getElem?_toList] at hc
    simp [hc]
theorem meas_succ (kk i : Nat) (h : i < kk) : kk - (intOf (.int .i64 ((i : Int) + 1))).toNat < kk - (intOf (.int .i64 (i : Int))).toNat := by simp [intOf]; omega
set_option maxRecDepth 100000 in
set_option maxHeartbeats 16000000 in
theorem count_calls (w : World) (a b c d e f : Int) (nn : Int) (one : Bool) (hn : 0 ≤ nn ∧ nn ≤ 255) :
    Calls Try.prog 5 #[.agg #[.int .i64 a, .int .i64 b, .int .i64 c, .int .i64 d, .int .i64 e, .int .i64 f], .int .u8 nn, .bool one] w fun en w' => en = .returned (.bool true) ∧ Below w.heap.size w w' := by
  obtain ⟨l, hl⟩ : ∃ l : LimV, (a, b, c, d, e, f) = l := ⟨_, rfl⟩
  obtain ⟨W, hW⟩ : ∃ W, w.alloc (.cells #[.int .i64 a, .int .i64 b, .int .i64 c, .int .i64 d, .int .i64 e, .int .i64 f] 23) = W := ⟨_, rfl⟩
  have hbW : Below w.heap.size w W := by rw [← hW]; exact (Below.refl _ w).alloc (Nat.le_refl _) _
  have hbl : W.heap[w.heap.size]? = some (.cells (limC (a, b, c, d, e, f)) 23 (0, 0)) := by rw [← hW]; exact new_cellsN w _ _
  have hlt : w.heap.size < W.heap.size := (Array.getElem?_eq_some_iff.1 hbl).1
  have LC := Lib.hid (fun (V : World) (hV : Below W.heap.size W V) => lim_cells ((hV.block _ hlt).trans hbl))
  have HBW := Lib.hid hbW
  have HLT := Lib.hid hlt
  have q25 : ∀ (w : World) (a : Addr), (binOp .eql 26 (.pointer (some a)) (.pointer none)).run Try.prog w = .ok (.bool false) w := fun w a => by kernel_rfl
  obtain ⟨kk, hkk⟩ : ∃ kk : Nat, Int.tmod (wrap64 nn) 100 = (kk : Int) ∧ kk < 100 := by
    refine ⟨(nn % 100).toNat, ?_, ?_⟩
    · rw [show wrap64 nn = nn by unfold wrap64; omega, Int.tmod_eq_emod_of_nonneg hn.1]; omega
    · omega
  have HK := Lib.hid hkk
  clear hkk hn hbl hbW hlt
  have KM := Lib.hid (fun V => rvmay_calls V a b c d e f)
  refine (callsIn_wide (n := 8)).1 ?_
  refine callsIn_of_wp_marks Try.func5 rfl trivial (wpIn_wide.2 ?_) rfl
  simp only [Try.ntmps5, List.size_toArray, List.length_cons, List.length_nil, Nat.reduceAdd, Nat.reduceSub, Array.replicate_succ, Array.replicate_zero, List.push_toArray, List.append_toArray, List.nil_append, List.cons_append]
  go_upto_region 3 with (go_at_call 7; refine (awake_calls _).mono ?_; rintro en w1 ⟨rfl, hb1⟩; have HB1 := Lib.hid hb1; clear hb1)
  clear hW
  obtain ⟨c0, c1, c2, c3, c4, c5⟩ := LC.out w1 HB1.out
  (try dsimp only at c0 c1 c2 c3 c4 c5)
  cases hm : mayL (a, b, c, d, e, f) with
  | false =>
    have KM1 := KM.out w1
    rw [hm] at KM1
    have KM1 := Lib.hid KM1
    go_wp2_with (go_at_call 11; with_reducible refine KM1.out.mono ?_; rintro en w2 ⟨rfl, hg2⟩)
    exact ⟨.bool true, by simp [results, Try.f5, go_sem], rfl, HBW.out.trans ((HB1.out.trans ⟨hg2.os, hg2.tape, hg2.output, hg2.size, fun i hi => hg2.block i (Nat.lt_of_lt_of_le hi HB1.out.size) (by simp)⟩).mono (Nat.le_of_lt HLT.out))⟩
  | true =>
    have KM1 := KM.out w1
    rw [hm] at KM1
    have KM1 := Lib.hid KM1
    have HM := Lib.hid hm
    clear hm
    go_upto_region 5 with (go_at_call 11; with_reducible refine KM1.out.mono ?_; rintro en w2 ⟨rfl, hg2⟩; have HB2 := Lib.hid (HB1.out.trans (⟨hg2.os, hg2.tape, hg2.output, hg2.size, fun i hi => hg2.block i (Nat.lt_of_lt_of_le hi HB1.out.size) (by simp)⟩ : Below W.heap.size w1 w2)); clear hg2)
    clear c0 c1 c2 c3 c4 c5
    obtain ⟨c0, c1, c2, c3, c4, c5⟩ := LC.out w2 HB2.out
    (try dsimp only at c0 c1 c2 c3 c4 c5)
    have KN := Lib.hid (new_calls w2 a b c d e f HM.out)
    go_upto_region 6 with (go_at_call 8; refine KN.out.mono ?_; rintro en w3 ⟨g, bm, rfl, hT3, hg3, hbm3, hgr3⟩)
    have HB3 := Lib.hid (HB2.out.trans (⟨hgr3.os, hgr3.tape, hgr3.output, hgr3.size, fun i hi => hgr3.block i (Nat.lt_of_lt_of_le hi HB2.out.size) (by simp)⟩ : Below W.heap.size w2 w3))
    have HG := Lib.hid (show W.heap.size ≤ g ∧ W.heap.size ≤ bm by have := HB2.out.size; omega)
    have HT3 := Lib.hid hT3
    clear hT3 hg3 hbm3 hgr3 c0 c1 c2 c3 c4 c5
    have hkk := HK.out.1
    go_upto_region 11 with fail
    (try go_frame)
    cases one with
    | true =>
      go_loopw [10, 11] (fun v10 v11 wr => ∃ (i : Nat) (L : List HeldP) (n' : Nat), v10 = .int .i64 L.length ∧ v11 = .int .i64 i ∧ i ≤ kk ∧ n' ≤ i ∧ TabAt wr g bm n' (a, b, c, d, e, f) L 0 ∧ CInv (a, b, c, d, e, f) true i L ∧ Touch g bm w3 wr) (fun _ v11 _ => kk - (intOf v11).toNat)
      case atStart => exact ⟨0, [], 0, rfl, rfl, Nat.zero_le _, Nat.le_refl _, HT3.out, cinv_start _ _ HM.out, Touch.refl _ _ _⟩
      case round =>
        obtain ⟨i, L, n', rfl, rfl, hik, hni, hT, hC, hTo⟩ := hrel
        have HTr := Lib.hid hT
        have HC := Lib.hid hC
        have HTo := Lib.hid hTo
        have hk100 := HK.out.2
        obtain ⟨ln, hln⟩ : ∃ m, L.length = m := ⟨_, rfl⟩
        have hlnb : ln ≤ 100 := by rw [← hln]; have h2 := hC.2.1; unfold mnI at h2; split at h2 <;> omega
        rw [hln]
        clear hT hC hTo
        by_cases hlt : i < kk
        · have b1 : decide ((i : Int) < (kk : Int)) = true := decide_eq_true (by omega)
          have hst := cinv_step HM.out HC.out (Nat.lt_trans hlt hk100)
          have hov := cinv_over HM.out HC.out
          have hmm := (mayL_iff _).1 HM.out
          have hh : hostF true ((i : Int) + 1) = 5 := rfl
          have hw1 : wrap64 ((i : Int) + 1) = (i : Int) + 1 := w64_succ i (Nat.le_of_lt (Nat.lt_trans hlt hk100))
          have hw2 : ((i : Int) + 1) % 4294967296 = (i : Int) + 1 := u32_succ i (Nat.le_of_lt (Nat.lt_trans hlt hk100))
          have KR := res_calls wr g bm n' (a, b, c, d, e, f) L 0 0 ((i : Int) + 1) (5) HTr.out (okRes_at i _ (Nat.le_of_lt (Nat.lt_trans hlt hk100)) (by decide)) HC.out.1 (Nat.le_trans hni (Nat.le_trans hik (Nat.le_trans (Nat.le_of_lt hk100) (by decide)))) (Nat.le_trans (Nat.le_of_eq hln) (Nat.le_trans hlnb (by decide))) (life_ok HM.out) (by decide)
          rw [hov] at KR
          rw [hh] at hst
          obtain ⟨⟨ru, rc, rL⟩, hres⟩ : ∃ r, resG (a, b, c, d, e, f) L 0 ((i : Int) + 1) (5) = r := ⟨_, rfl⟩
          rw [hres] at KR hst
          dsimp only at KR hst
          have KR := Lib.hid KR
          clear hmm hov hh hres
          rcases hst with ⟨rfl, hC2, hl2⟩ | ⟨rfl | rfl, rfl, hC2⟩
          · have HC2 := Lib.hid hC2
            have hl3 : rL.length = ln + 1 := by rw [hl2, hln]
            have hw3 : wrap64 ((ln : Int) + 1) = ((ln + 1 : Nat) : Int) := w64_succ' ln hlnb
            clear hC2 hl2
            go_wp2_with (go_at_call 10; refine KR.out.mono ?_; rintro en w5 ⟨n5, hn5, rfl, hT5, ht5⟩)
            go_roundw
            case rel => exact ⟨i + 1, rL, n5, by rw [hl3]; rfl, rfl, Nat.succ_le_of_lt hlt, Nat.le_trans hn5 (Nat.succ_le_succ hni), hT5, HC2.out, HTo.out.trans ht5⟩
            case measure => exact meas_succ kk i hlt
          · have HC2 := Lib.hid hC2
            clear hC2
            go_wp2_with (go_at_call 10; refine KR.out.mono ?_; rintro en w5 ⟨n5, hn5, rfl, hT5, ht5⟩)
            go_roundw
            case rel => exact ⟨i + 1, rL, n5, by rw [hln], rfl, Nat.succ_le_of_lt hlt, Nat.le_trans hn5 (Nat.succ_le_succ hni), hT5, HC2.out, HTo.out.trans ht5⟩
            case measure => exact meas_succ kk i hlt
          · have HC2 := Lib.hid hC2
            clear hC2
            go_wp2_with (go_at_call 10; refine KR.out.mono ?_; rintro en w5 ⟨n5, hn5, rfl, hT5, ht5⟩)
            go_roundw
            case rel => exact ⟨i + 1, rL, n5, by rw [hln], rfl, Nat.succ_le_of_lt hlt, Nat.le_trans hn5 (Nat.succ_le_succ hni), hT5, HC2.out, HTo.out.trans ht5⟩
            case measure => exact meas_succ kk i hlt
        · have b1 : decide ((i : Int) < (kk : Int)) = false := decide_eq_false (by omega)
          have hik2 : i = kk := by omega
          subst hik2
          have hlen := HC.out.2.1
          rw [hln] at hlen
          have hBr := Touch.below HB3.out HTo.out HG.out.1 HG.out.2 HB3.out.size
          have HBr := Lib.hid hBr
          obtain ⟨c0, c1, c2, c3, c4, c5⟩ := LC.out wr hBr
          (try dsimp only at c0 c1 c2 c3 c4 c5)
          clear hBr
          clear hkk
          have hwant := want_true (i : Int) a b c d e f (ln : Int) hlen
          clear hlen
          obtain ⟨v1, hv1⟩ : ∃ v, (if a < (i : Int) then a else (i : Int)) = v := ⟨_, rfl⟩
          rw [hv1] at hwant
          go_upto_region 24 with fail
          clear hv1
          clear hwant
          have hov := cinv_over HM.out HC.out
          have hcz := (HC.out).2.2
          have HOV := Lib.hid hov
          have HCZ := Lib.hid hcz
          clear hov hcz
          go_upto_region 25 with fail
          obtain ⟨W5, hW5⟩ : ∃ X, wr.alloc (.cells #[.int .i64 0] 3) = X := ⟨_, rfl⟩
          have hb5 : Below wr.heap.size wr W5 := by rw [← hW5]; exact (Below.refl _ wr).alloc (Nat.le_refl _) _
          have hs5 : W5.heap.size = wr.heap.size + 1 := by rw [← hW5]; simp
          have B5 : Boxed W5 wr.heap.size 3 (.int .i64 0) := by rw [← hW5]; exact Boxed.new wr _ _
          have hT5 := tab_kept HTr.out hb5
          have KA := all_calls W5 g bm n' (a, b, c, d, e, f) L 0 0 hT5 HC.out.1 (Nat.le_trans (Nat.le_of_eq hln) (Nat.le_trans hlnb (by decide)))
          rw [show onT 0 0 = 0 from rfl, HOV.out] at KA
          have KA := Lib.hid KA
          rw [hW5]
          clear hW5 c0 c1 c2 c3 c4 c5 hT5
          go_wp2_with (go_at_call 9; refine KA.out.mono ?_; rintro en w6 ⟨p1, p2, b2, rfl, hA6, hT6, ht6⟩)
          obtain ⟨A6, m6, cc6, a1, hm6, hrow6, a2, hown6, hp1, hp2, hb2⟩ := hA6
          subst hm6
          have hTl := HTr.out.lt
          have hHG := HG.out
          have hp1l : p1 < w6.heap.size := World.block_lt_of_cell? _ _ a1
          have hp2l : p2 < w6.heap.size := World.block_lt_of_cell? _ _ a2
          have hb2l := hown6.lt
          have b6 : Boxed w6 wr.heap.size 3 (.int .i64 0) := (ht6.2.2.2.2 wr.heap.size (by omega) (by omega) (by omega)).trans B5
          have hB6 : Below W.heap.size W w6 := Touch.below (HBr.out.trans (hb5.mono HBr.out.size)) ht6 hHG.1 hHG.2 (Nat.le_trans HBr.out.size (by omega))
          have hrc := row_cells hrow6
          obtain ⟨S, hS⟩ : ∃ S : Nat → Prop, S = fun b => b ≠ wr.heap.size ∧ b < w6.heap.size := ⟨_, rfl⟩
          have hSlt : ∀ b, S b → b < w6.heap.size := fun b hb => by rw [hS] at hb; exact hb.2
          have hSn : ¬ S wr.heap.size := fun hb => by rw [hS] at hb; exact hb.1 rfl
          have hSy : ∀ b, b < w6.heap.size → b ≠ wr.heap.size → S b := fun b h1 h2 => by rw [hS]; exact ⟨h2, h1⟩
          clear hS
          have seq := all_stops 7 (by omega) S p1 p2 b2 n' A6 cc6 L w6 (hSy p1 hp1l (by omega)) (hSy p2 hp2l (by omega)) (hSy b2 hb2l (by omega)) hSlt a1 a2 hown6 HC.out.1 (Nat.le_trans (Nat.le_of_eq hln) (Nat.le_trans hlnb (by decide)))
            (fun q hq => by have := HCZ.out q hq; unfold I64; omega)
            (fun V hV j hj => by
              rcases hrc with h0 | ⟨gr, hA, hgr, hgl, hX⟩
              · omega
              · exact ⟨_, hA, hX V (hV.2 gr (hSy gr hgl (by omega))) j hj⟩)
          refine (wpIn_wide (n := 8)).1 ?_
          refine wpIn_rangeFunc_ownF rfl (by omega) (gf := 17) (lb := #[.pointer (some ⟨p1, 0, none⟩), .pointer (some ⟨p2, 0, none⟩)]) rfl trivial (enters_of Try.func17 (by kernel_rfl) rfl)
            seq KeepS.trans (fun W l o o' hl h _ _ => KeepS.put W l o o' (fun hb => by have := hSlt l hb; omega) h) (Below.refl _ _) (fun _ => rfl)
            (fun pre V => KeepS S w6 V ∧ Boxed V wr.heap.size 3 (.int .i64 pre.length) ∧ Below W.heap.size W V)
            (fun _ _ _ => False)
            ?hI ?hIx ?h0 ?a1 ?assign ?body ?done ?stop
          case assign =>
            intro l x W K hK
            gi_wp2
            exact hK
          case hI =>
            rintro s X Y row ⟨h2, h3, h4⟩ hg hr
            exact ⟨h2.grown hSlt hg (fun r e hb => by have := (hr r e).1; have := hSlt r hb; omega), h3.kept hg (fun e => by obtain ⟨_, o, ho, hc⟩ := hr _ e.symm; have h3' : X.heap[wr.heap.size]? = _ := h3; rw [h3'] at ho; cases ho; cases hc), h4.grown hg h4.size (fun k e => by have := (hr k e).1; have := hB6.size; omega)⟩
          case hIx => exact fun cc s X Y row h hg hr => h
          case h0 => exact ⟨KeepS.refl _ _, b6, hB6⟩
          case body =>
            rintro lp pre x V ⟨hk, b9, hbl⟩ hlt2
            have Hk := Lib.hid hk
            have HSn := Lib.hid hSn
            have HNE := Lib.hid (show W.heap.size ≤ wr.heap.size from HBr.out.size)
            obtain ⟨j, hj⟩ : ∃ j, pre.length = j := ⟨_, rfl⟩
            rw [hj] at b9 hlt2
            have Hj := Lib.hid hj
            have hwj : wrap64 ((j : Int) + 1) = (j : Int) + 1 := w64_at j hlt2
            clear hk hSn hSy hSlt seq hj hrc hrow6 hown6 a1 a2 ht6 hT6 KA B5 b6 hB6 hb5 hs5 hp1 hp2 hb2 hp1l hp2l hb2l hHG hTl hlt2
            clear HOV HCZ HC HTr HTo HBr KM KM1 KN LC HB1 HB2 HB3 HT3 HG HM HK
            have c9 := b9.cell
            have f9 := b9.frozen
            gi_wp2
            refine ⟨KeepsOthers.setCell _ _ _, KeepS.setCell HSn.out _, Hk.out.trans (KeepS.setCell HSn.out _), ?_, hbl.setCell (p := ⟨wr.heap.size, 0, none⟩) HNE.out _⟩
            rw [List.length_append, Hj.out]
            exact b9.set _
          case done =>
            rintro D xs V hD hlen2 ⟨hk, b9, hbl3⟩ hK2
            rw [hlen2, hln] at b9
            have c9 := b9.cell
            clear hk hlen2 seq hrc hrow6 hown6 a1 a2
            go_wp2
            refine ⟨by simp, .inl ⟨_, _, rfl, run_takeDeferred hK2, ?_⟩⟩
            refine ⟨.bool true, ?_, rfl, (HBW.out.trans (hbl3.mono (Nat.le_of_lt HLT.out))).trans (belowK_b (n₀ := w.heap.size) (w := w6) (Nat.le_trans (Nat.le_of_lt HLT.out) hB6.size) _ D _ _ hD hK2 rfl rfl)⟩
            simp [results, Try.f5, go_sem]
          case stop => exact fun D jmp pre V hD hS hX hK2 => hX.elim
    | false =>
      go_loopw [10, 11] (fun v10 v11 wr => ∃ (i : Nat) (L : List HeldP) (n' : Nat), v10 = .int .i64 L.length ∧ v11 = .int .i64 i ∧ i ≤ kk ∧ n' ≤ i ∧ TabAt wr g bm n' (a, b, c, d, e, f) L 0 ∧ CInv (a, b, c, d, e, f) false i L ∧ Touch g bm w3 wr) (fun _ v11 _ => kk - (intOf v11).toNat)
      case atStart => exact ⟨0, [], 0, rfl, rfl, Nat.zero_le _, Nat.le_refl _, HT3.out, cinv_start _ _ HM.out, Touch.refl _ _ _⟩
      case round =>
        obtain ⟨i, L, n', rfl, rfl, hik, hni, hT, hC, hTo⟩ := hrel
        have HTr := Lib.hid hT
        have HC := Lib.hid hC
        have HTo := Lib.hid hTo
        have hk100 := HK.out.2
        obtain ⟨ln, hln⟩ : ∃ m, L.length = m := ⟨_, rfl⟩
        have hlnb : ln ≤ 100 := by rw [← hln]; have h2 := hC.2.1; unfold mnI at h2; split at h2 <;> omega
        rw [hln]
        clear hT hC hTo
        by_cases hlt : i < kk
        · have b1 : decide ((i : Int) < (kk : Int)) = true := decide_eq_true (by omega)
          have hst := cinv_step HM.out HC.out (Nat.lt_trans hlt hk100)
          have hov := cinv_over HM.out HC.out
          have hmm := (mayL_iff _).1 HM.out
          have hh : hostF false ((i : Int) + 1) = (i : Int) + 1 := rfl
          have hw1 : wrap64 ((i : Int) + 1) = (i : Int) + 1 := w64_succ i (Nat.le_of_lt (Nat.lt_trans hlt hk100))
          have hw2 : ((i : Int) + 1) % 4294967296 = (i : Int) + 1 := u32_succ i (Nat.le_of_lt (Nat.lt_trans hlt hk100))
          have KR := res_calls wr g bm n' (a, b, c, d, e, f) L 0 0 ((i : Int) + 1) ((i : Int) + 1) HTr.out (okRes_at i _ (Nat.le_of_lt (Nat.lt_trans hlt hk100)) (succ_ne i)) HC.out.1 (Nat.le_trans hni (Nat.le_trans hik (Nat.le_trans (Nat.le_of_lt hk100) (by decide)))) (Nat.le_trans (Nat.le_of_eq hln) (Nat.le_trans hlnb (by decide))) (life_ok HM.out) (by decide)
          rw [hov] at KR
          rw [hh] at hst
          obtain ⟨⟨ru, rc, rL⟩, hres⟩ : ∃ r, resG (a, b, c, d, e, f) L 0 ((i : Int) + 1) ((i : Int) + 1) = r := ⟨_, rfl⟩
          rw [hres] at KR hst
          dsimp only at KR hst
          have KR := Lib.hid KR
          clear hmm hov hh hres
          rcases hst with ⟨rfl, hC2, hl2⟩ | ⟨rfl | rfl, rfl, hC2⟩
          · have HC2 := Lib.hid hC2
            have hl3 : rL.length = ln + 1 := by rw [hl2, hln]
            have hw3 : wrap64 ((ln : Int) + 1) = ((ln + 1 : Nat) : Int) := w64_succ' ln hlnb
            clear hC2 hl2
            go_wp2_with (go_at_call 10; refine KR.out.mono ?_; rintro en w5 ⟨n5, hn5, rfl, hT5, ht5⟩)
            go_roundw
            case rel => exact ⟨i + 1, rL, n5, by rw [hl3]; rfl, rfl, Nat.succ_le_of_lt hlt, Nat.le_trans hn5 (Nat.succ_le_succ hni), hT5, HC2.out, HTo.out.trans ht5⟩
            case measure => exact meas_succ kk i hlt
          · have HC2 := Lib.hid hC2
            clear hC2
            go_wp2_with (go_at_call 10; refine KR.out.mono ?_; rintro en w5 ⟨n5, hn5, rfl, hT5, ht5⟩)
            go_roundw
            case rel => exact ⟨i + 1, rL, n5, by rw [hln], rfl, Nat.succ_le_of_lt hlt, Nat.le_trans hn5 (Nat.succ_le_succ hni), hT5, HC2.out, HTo.out.trans ht5⟩
            case measure => exact meas_succ kk i hlt
          · have HC2 := Lib.hid hC2
            clear hC2
            go_wp2_with (go_at_call 10; refine KR.out.mono ?_; rintro en w5 ⟨n5, hn5, rfl, hT5, ht5⟩)
            go_roundw
            case rel => exact ⟨i + 1, rL, n5, by rw [hln], rfl, Nat.succ_le_of_lt hlt, Nat.le_trans hn5 (Nat.succ_le_succ hni), hT5, HC2.out, HTo.out.trans ht5⟩
            case measure => exact meas_succ kk i hlt
        · have b1 : decide ((i : Int) < (kk : Int)) = false := decide_eq_false (by omega)
          have hik2 : i = kk := by omega
          subst hik2
          have hlen := HC.out.2.1
          rw [hln] at hlen
          have hBr := Touch.below HB3.out HTo.out HG.out.1 HG.out.2 HB3.out.size
          have HBr := Lib.hid hBr
          obtain ⟨c0, c1, c2, c3, c4, c5⟩ := LC.out wr hBr
          (try dsimp only at c0 c1 c2 c3 c4 c5)
          clear hBr
          clear hkk
          have hmm : 0 ≤ a := ((mayL_iff _).1 HM.out).1.1
          by_cases hb : b = 0
          · have hbb : (b == 0) = true := by simpa using hb
            have hwant := (want_zero (i : Int) a b c d e f (ln : Int) hb hlen).resolve_right (fun h => h.elim (fun h => absurd hmm (Int.not_le.2 h)) (fun h => absurd (Int.natCast_nonneg i) (Int.not_le.2 h)))
            clear hlen hmm hb
            obtain ⟨v1, hv1⟩ : ∃ v, (if a < (i : Int) then a else (i : Int)) = v := ⟨_, rfl⟩
            rw [hv1] at hwant
            go_upto_region 24 with fail
            clear hv1
            clear hwant
            have hov := cinv_over HM.out HC.out
            have hcz := (HC.out).2.2
            have HOV := Lib.hid hov
            have HCZ := Lib.hid hcz
            clear hov hcz
            go_upto_region 25 with fail
            obtain ⟨W5, hW5⟩ : ∃ X, wr.alloc (.cells #[.int .i64 0] 3) = X := ⟨_, rfl⟩
            have hb5 : Below wr.heap.size wr W5 := by rw [← hW5]; exact (Below.refl _ wr).alloc (Nat.le_refl _) _
            have hs5 : W5.heap.size = wr.heap.size + 1 := by rw [← hW5]; simp
            have B5 : Boxed W5 wr.heap.size 3 (.int .i64 0) := by rw [← hW5]; exact Boxed.new wr _ _
            have hT5 := tab_kept HTr.out hb5
            have KA := all_calls W5 g bm n' (a, b, c, d, e, f) L 0 0 hT5 HC.out.1 (Nat.le_trans (Nat.le_of_eq hln) (Nat.le_trans hlnb (by decide)))
            rw [show onT 0 0 = 0 from rfl, HOV.out] at KA
            have KA := Lib.hid KA
            rw [hW5]
            clear hW5 c0 c1 c2 c3 c4 c5 hT5
            go_wp2_with (go_at_call 9; refine KA.out.mono ?_; rintro en w6 ⟨p1, p2, b2, rfl, hA6, hT6, ht6⟩)
            obtain ⟨A6, m6, cc6, a1, hm6, hrow6, a2, hown6, hp1, hp2, hb2⟩ := hA6
            subst hm6
            have hTl := HTr.out.lt
            have hHG := HG.out
            have hp1l : p1 < w6.heap.size := World.block_lt_of_cell? _ _ a1
            have hp2l : p2 < w6.heap.size := World.block_lt_of_cell? _ _ a2
            have hb2l := hown6.lt
            have b6 : Boxed w6 wr.heap.size 3 (.int .i64 0) := (ht6.2.2.2.2 wr.heap.size (by omega) (by omega) (by omega)).trans B5
            have hB6 : Below W.heap.size W w6 := Touch.below (HBr.out.trans (hb5.mono HBr.out.size)) ht6 hHG.1 hHG.2 (Nat.le_trans HBr.out.size (by omega))
            have hrc := row_cells hrow6
            obtain ⟨S, hS⟩ : ∃ S : Nat → Prop, S = fun b => b ≠ wr.heap.size ∧ b < w6.heap.size := ⟨_, rfl⟩
            have hSlt : ∀ b, S b → b < w6.heap.size := fun b hb => by rw [hS] at hb; exact hb.2
            have hSn : ¬ S wr.heap.size := fun hb => by rw [hS] at hb; exact hb.1 rfl
            have hSy : ∀ b, b < w6.heap.size → b ≠ wr.heap.size → S b := fun b h1 h2 => by rw [hS]; exact ⟨h2, h1⟩
            clear hS
            have seq := all_stops 7 (by omega) S p1 p2 b2 n' A6 cc6 L w6 (hSy p1 hp1l (by omega)) (hSy p2 hp2l (by omega)) (hSy b2 hb2l (by omega)) hSlt a1 a2 hown6 HC.out.1 (Nat.le_trans (Nat.le_of_eq hln) (Nat.le_trans hlnb (by decide)))
              (fun q hq => by have := HCZ.out q hq; unfold I64; omega)
              (fun V hV j hj => by
                rcases hrc with h0 | ⟨gr, hA, hgr, hgl, hX⟩
                · omega
                · exact ⟨_, hA, hX V (hV.2 gr (hSy gr hgl (by omega))) j hj⟩)
            refine (wpIn_wide (n := 8)).1 ?_
            refine wpIn_rangeFunc_ownF rfl (by omega) (gf := 17) (lb := #[.pointer (some ⟨p1, 0, none⟩), .pointer (some ⟨p2, 0, none⟩)]) rfl trivial (enters_of Try.func17 (by kernel_rfl) rfl)
              seq KeepS.trans (fun W l o o' hl h _ _ => KeepS.put W l o o' (fun hb => by have := hSlt l hb; omega) h) (Below.refl _ _) (fun _ => rfl)
              (fun pre V => KeepS S w6 V ∧ Boxed V wr.heap.size 3 (.int .i64 pre.length) ∧ Below W.heap.size W V)
              (fun _ _ _ => False)
              ?hIp ?hIxp ?h0p ?a1p ?assignp ?bodyp ?donep ?stopp
            case assignp =>
              intro l x W K hK
              gi_wp2
              exact hK
            case hIp =>
              rintro s X Y row ⟨h2, h3, h4⟩ hg hr
              exact ⟨h2.grown hSlt hg (fun r e hb => by have := (hr r e).1; have := hSlt r hb; omega), h3.kept hg (fun e => by obtain ⟨_, o, ho, hc⟩ := hr _ e.symm; have h3' : X.heap[wr.heap.size]? = _ := h3; rw [h3'] at ho; cases ho; cases hc), h4.grown hg h4.size (fun k e => by have := (hr k e).1; have := hB6.size; omega)⟩
            case hIxp => exact fun cc s X Y row h hg hr => h
            case h0p => exact ⟨KeepS.refl _ _, b6, hB6⟩
            case bodyp =>
              rintro lp pre x V ⟨hk, b9, hbl⟩ hlt2
              have Hk := Lib.hid hk
              have HSn := Lib.hid hSn
              have HNE := Lib.hid (show W.heap.size ≤ wr.heap.size from HBr.out.size)
              obtain ⟨j, hj⟩ : ∃ j, pre.length = j := ⟨_, rfl⟩
              rw [hj] at b9 hlt2
              have Hj := Lib.hid hj
              have hwj : wrap64 ((j : Int) + 1) = (j : Int) + 1 := w64_at j hlt2
              clear hk hSn hSy hSlt seq hj hrc hrow6 hown6 a1 a2 ht6 hT6 KA B5 b6 hB6 hb5 hs5 hp1 hp2 hb2 hp1l hp2l hb2l hHG hTl hlt2
              clear HOV HCZ HC HTr HTo HBr KM KM1 KN LC HB1 HB2 HB3 HT3 HG HM HK
              have c9 := b9.cell
              have f9 := b9.frozen
              gi_wp2
              refine ⟨KeepsOthers.setCell _ _ _, KeepS.setCell HSn.out _, Hk.out.trans (KeepS.setCell HSn.out _), ?_, hbl.setCell (p := ⟨wr.heap.size, 0, none⟩) HNE.out _⟩
              rw [List.length_append, Hj.out]
              exact b9.set _
            case donep =>
              rintro D xs V hD hlen2 ⟨hk, b9, hbl3⟩ hK2
              rw [hlen2, hln] at b9
              have c9 := b9.cell
              clear hk hlen2 seq hrc hrow6 hown6 a1 a2
              go_wp2
              refine ⟨by simp, .inl ⟨_, _, rfl, run_takeDeferred hK2, ?_⟩⟩
              refine ⟨.bool true, ?_, rfl, (HBW.out.trans (hbl3.mono (Nat.le_of_lt HLT.out))).trans (belowK_b (n₀ := w.heap.size) (w := w6) (Nat.le_trans (Nat.le_of_lt HLT.out) hB6.size) _ D _ _ hD hK2 rfl rfl)⟩
              simp [results, Try.f5, go_sem]
            case stopp => exact fun D jmp pre V hD hS hX hK2 => hX.elim
          · have hbb : (b == 0) = false := by simpa using hb
            have hwant := want_false (i : Int) a b c d e f (ln : Int) hb hlen
            clear hlen hmm hb
            obtain ⟨v1, hv1⟩ : ∃ v, (if a < (i : Int) then a else (i : Int)) = v := ⟨_, rfl⟩
            rw [hv1] at hwant
            go_upto_region 24 with fail
            clear hv1
            clear hwant
            have hov := cinv_over HM.out HC.out
            have hcz := (HC.out).2.2
            have HOV := Lib.hid hov
            have HCZ := Lib.hid hcz
            clear hov hcz
            go_upto_region 25 with fail
            obtain ⟨W5, hW5⟩ : ∃ X, wr.alloc (.cells #[.int .i64 0] 3) = X := ⟨_, rfl⟩
            have hb5 : Below wr.heap.size wr W5 := by rw [← hW5]; exact (Below.refl _ wr).alloc (Nat.le_refl _) _
            have hs5 : W5.heap.size = wr.heap.size + 1 := by rw [← hW5]; simp
            have B5 : Boxed W5 wr.heap.size 3 (.int .i64 0) := by rw [← hW5]; exact Boxed.new wr _ _
            have hT5 := tab_kept HTr.out hb5
            have KA := all_calls W5 g bm n' (a, b, c, d, e, f) L 0 0 hT5 HC.out.1 (Nat.le_trans (Nat.le_of_eq hln) (Nat.le_trans hlnb (by decide)))
            rw [show onT 0 0 = 0 from rfl, HOV.out] at KA
            have KA := Lib.hid KA
            rw [hW5]
            clear hW5 c0 c1 c2 c3 c4 c5 hT5
            go_wp2_with (go_at_call 9; refine KA.out.mono ?_; rintro en w6 ⟨p1, p2, b2, rfl, hA6, hT6, ht6⟩)
            obtain ⟨A6, m6, cc6, a1, hm6, hrow6, a2, hown6, hp1, hp2, hb2⟩ := hA6
            subst hm6
            have hTl := HTr.out.lt
            have hHG := HG.out
            have hp1l : p1 < w6.heap.size := World.block_lt_of_cell? _ _ a1
            have hp2l : p2 < w6.heap.size := World.block_lt_of_cell? _ _ a2
            have hb2l := hown6.lt
            have b6 : Boxed w6 wr.heap.size 3 (.int .i64 0) := (ht6.2.2.2.2 wr.heap.size (by omega) (by omega) (by omega)).trans B5
            have hB6 : Below W.heap.size W w6 := Touch.below (HBr.out.trans (hb5.mono HBr.out.size)) ht6 hHG.1 hHG.2 (Nat.le_trans HBr.out.size (by omega))
            have hrc := row_cells hrow6
            obtain ⟨S, hS⟩ : ∃ S : Nat → Prop, S = fun b => b ≠ wr.heap.size ∧ b < w6.heap.size := ⟨_, rfl⟩
            have hSlt : ∀ b, S b → b < w6.heap.size := fun b hb => by rw [hS] at hb; exact hb.2
            have hSn : ¬ S wr.heap.size := fun hb => by rw [hS] at hb; exact hb.1 rfl
            have hSy : ∀ b, b < w6.heap.size → b ≠ wr.heap.size → S b := fun b h1 h2 => by rw [hS]; exact ⟨h2, h1⟩
            clear hS
            have seq := all_stops 7 (by omega) S p1 p2 b2 n' A6 cc6 L w6 (hSy p1 hp1l (by omega)) (hSy p2 hp2l (by omega)) (hSy b2 hb2l (by omega)) hSlt a1 a2 hown6 HC.out.1 (Nat.le_trans (Nat.le_of_eq hln) (Nat.le_trans hlnb (by decide)))
              (fun q hq => by have := HCZ.out q hq; unfold I64; omega)
              (fun V hV j hj => by
                rcases hrc with h0 | ⟨gr, hA, hgr, hgl, hX⟩
                · omega
                · exact ⟨_, hA, hX V (hV.2 gr (hSy gr hgl (by omega))) j hj⟩)
            refine (wpIn_wide (n := 8)).1 ?_
            refine wpIn_rangeFunc_ownF rfl (by omega) (gf := 17) (lb := #[.pointer (some ⟨p1, 0, none⟩), .pointer (some ⟨p2, 0, none⟩)]) rfl trivial (enters_of Try.func17 (by kernel_rfl) rfl)
              seq KeepS.trans (fun W l o o' hl h _ _ => KeepS.put W l o o' (fun hb => by have := hSlt l hb; omega) h) (Below.refl _ _) (fun _ => rfl)
              (fun pre V => KeepS S w6 V ∧ Boxed V wr.heap.size 3 (.int .i64 pre.length) ∧ Below W.heap.size W V)
              (fun _ _ _ => False)
              ?hIq ?hIxq ?h0q ?a1q ?assignq ?bodyq ?doneq ?stopq
            case assignq =>
              intro l x W K hK
              gi_wp2
              exact hK
            case hIq =>
              rintro s X Y row ⟨h2, h3, h4⟩ hg hr
              exact ⟨h2.grown hSlt hg (fun r e hb => by have := (hr r e).1; have := hSlt r hb; omega), h3.kept hg (fun e => by obtain ⟨_, o, ho, hc⟩ := hr _ e.symm; have h3' : X.heap[wr.heap.size]? = _ := h3; rw [h3'] at ho; cases ho; cases hc), h4.grown hg h4.size (fun k e => by have := (hr k e).1; have := hB6.size; omega)⟩
            case hIxq => exact fun cc s X Y row h hg hr => h
            case h0q => exact ⟨KeepS.refl _ _, b6, hB6⟩
            case bodyq =>
              rintro lp pre x V ⟨hk, b9, hbl⟩ hlt2
              have Hk := Lib.hid hk
              have HSn := Lib.hid hSn
              have HNE := Lib.hid (show W.heap.size ≤ wr.heap.size from HBr.out.size)
              obtain ⟨j, hj⟩ : ∃ j, pre.length = j := ⟨_, rfl⟩
              rw [hj] at b9 hlt2
              have Hj := Lib.hid hj
              have hwj : wrap64 ((j : Int) + 1) = (j : Int) + 1 := w64_at j hlt2
              clear hk hSn hSy hSlt seq hj hrc hrow6 hown6 a1 a2 ht6 hT6 KA B5 b6 hB6 hb5 hs5 hp1 hp2 hb2 hp1l hp2l hb2l hHG hTl hlt2
              clear HOV HCZ HC HTr HTo HBr KM KM1 KN LC HB1 HB2 HB3 HT3 HG HM HK
              have c9 := b9.cell
              have f9 := b9.frozen
              gi_wp2
              refine ⟨KeepsOthers.setCell _ _ _, KeepS.setCell HSn.out _, Hk.out.trans (KeepS.setCell HSn.out _), ?_, hbl.setCell (p := ⟨wr.heap.size, 0, none⟩) HNE.out _⟩
              rw [List.length_append, Hj.out]
              exact b9.set _
            case doneq =>
              rintro D xs V hD hlen2 ⟨hk, b9, hbl3⟩ hK2
              rw [hlen2, hln] at b9
              have c9 := b9.cell
              clear hk hlen2 seq hrc hrow6 hown6 a1 a2
              go_wp2
              refine ⟨by simp, .inl ⟨_, _, rfl, run_takeDeferred hK2, ?_⟩⟩
              refine ⟨.bool true, ?_, rfl, (HBW.out.trans (hbl3.mono (Nat.le_of_lt HLT.out))).trans (belowK_b (n₀ := w.heap.size) (w := w6) (Nat.le_trans (Nat.le_of_lt HLT.out) hB6.size) _ D _ _ hD hK2 rfl rfl)⟩
              simp [results, Try.f5, go_sem]
            case stopq => exact fun D jmp pre V hD hS hX hK2 => hX.elim
end Go.Proofs.Ytglpjoijkinlbaa.Rv
