/-
  ResvAgain, walked. Conditions: numbers are of their kinds.
-/
import Derived.Test.YtglpjoijkinlbaaRv
import Derived.Test.YtglpjoijkinlbaaRx
import Derived.LoopN
namespace Go.Proofs.Ytglpjoijkinlbaa.Rv
open Go.RowKit Go.Maps Go.Shelf Go.Sort Go.Proofs.YtglpjoijkinlbaaW.PrintWords Go.Proofs.YtglpjoijkinlbaaW.PrintLast Go.Proofs.YtglpjoijkinlbaaW.PrintMore
set_option linter.unusedVariables false
set_option linter.unusedSimpArgs false
attribute [local go_sem] Oper.semAt_some max2_int min2_int max_two min_two
theorem rounds_next {P : Program} {c : Code} {Q : Exit → Act → World → Prop} {a : Act} {w : World} (n : Nat) (h : ∀ K : Act → World → Prop, (∀ a' w', Code.rounds P c Q n a' w' → K a' w') → c.wp P (Exit.then K Q) a w) : Code.rounds P c Q (n + 1) a w := by
  rw [rounds_succ]
  exact h _ (fun _ _ h => h)
theorem tab_keepS {W X : World} {S : Nat → Prop} {g b n : Nat} {l : LimV} {L : List HeldP} {now : Int} (h : TabAt W g b n l L now) (k : KeepS S W X) (hg : S g) (hb : S b) : TabAt X g b n l L now := by
  obtain ⟨es, clock, hb', Ft, hs, hD⟩ := h.2
  exact ⟨(k.2 g hg).trans h.1, es, clock, (k.2 b hb).trans hb', Ft, hs, hD⟩
set_option maxRecDepth 100000 in
set_option maxHeartbeats 16000000 in
theorem again_calls (w : World) (a b c d e f : Int) (nn wt : Int) (hn : 0 ≤ nn ∧ nn ≤ 255) (hw : 0 ≤ wt ∧ wt ≤ 255) :
    Calls Try.prog 4 #[.agg #[.int .i64 a, .int .i64 b, .int .i64 c, .int .i64 d, .int .i64 e, .int .i64 f], .int .u8 nn, .int .u8 wt] w fun en w' => en = .returned (.bool true) ∧ Below w.heap.size w w' := by
  obtain ⟨W0, hW0⟩ : ∃ W, w.alloc (.cells #[.int .i64 a, .int .i64 b, .int .i64 c, .int .i64 d, .int .i64 e, .int .i64 f] 23) = W := ⟨_, rfl⟩
  obtain ⟨W, hW⟩ : ∃ W, W0.alloc (.cells #[.bool false] 4) = W := ⟨_, rfl⟩
  have hs0 : W0.heap.size = w.heap.size + 1 := by rw [← hW0]; simp
  have hs2 : W.heap.size = w.heap.size + 2 := by rw [← hW]; simp; omega
  have hb01 : Below W0.heap.size W0 W := by rw [← hW]; exact (Below.refl _ _).alloc (Nat.le_refl _) _
  have hbW : Below w.heap.size w W := by rw [← hW, ← hW0]; exact ((Below.refl _ w).alloc (Nat.le_refl _) _).alloc (by simp) _
  have hbl : W.heap[w.heap.size]? = some (.cells (limC (a, b, c, d, e, f)) 23 (0, 0)) := by
    rw [hb01.block _ (by omega), ← hW0]; exact new_cellsN w _ _
  have hBR : Boxed W W0.heap.size 4 (.bool false) := by
    have h := Boxed.new W0 4 (.bool false)
    rw [hW] at h
    exact h
  have LC := Lib.hid (fun (V : World) (hV : Below W.heap.size W V) => lim_cells ((hV.block _ (by omega)).trans hbl))
  have HBW := Lib.hid hbW
  have HS2 := Lib.hid (show W0.heap.size = w.heap.size + 1 ∧ W.heap.size = w.heap.size + 2 from ⟨hs0, hs2⟩)
  have q25 : ∀ (w : World) (a : Addr), (binOp .eql 26 (.pointer (some a)) (.pointer none)).run Try.prog w = .ok (.bool false) w := fun w a => by kernel_rfl
  have HBR := Lib.hid hBR
  obtain ⟨kk, hkk⟩ : ∃ kk : Nat, Int.tmod (wrap64 nn) 100 = (kk : Int) ∧ kk < 100 := by
    refine ⟨(nn % 100).toNat, ?_, ?_⟩
    · rw [show wrap64 nn = nn by unfold wrap64; omega, Int.tmod_eq_emod_of_nonneg hn.1]; omega
    · omega
  have HK := Lib.hid hkk
  have hwt : wrap64 wt = wt := by unfold wrap64; omega
  have HWT := Lib.hid hwt
  have HW := Lib.hid hw
  clear hkk hn hw hbl hbW hb01 hBR hs0 hs2 hwt
  have KM := Lib.hid (fun V => rvmay_calls V a b c d e f)
  refine (callsIn_wide (n := 8)).1 ?_
  refine callsIn_of_wp_marks Try.func4 rfl trivial (wpIn_wide.2 ?_) rfl
  simp only [Try.ntmps4, List.size_toArray, List.length_cons, List.length_nil, Nat.reduceAdd, Nat.reduceSub, Array.replicate_succ, Array.replicate_zero, List.push_toArray, List.append_toArray, List.nil_append, List.cons_append]
  go_upto_region 3 with (go_at_call 7; refine (awake_calls _).mono ?_; rintro en w1 ⟨rfl, hb1⟩; have HB1 := Lib.hid hb1; clear hb1)
  clear hW0 hW
  obtain ⟨c0, c1, c2, c3, c4, c5⟩ := LC.out w1 HB1.out
  (try dsimp only at c0 c1 c2 c3 c4 c5)
  have HL1 := Lib.hid (show W0.heap.size < w1.heap.size from Nat.lt_of_lt_of_le (by have := HS2.out; omega) HB1.out.size)
  have BR1 := Lib.hid (show Boxed w1 W0.heap.size 4 (.bool false) from (HB1.out.block _ (by have := HS2.out; omega)).trans HBR.out)
  by_cases hgo : mayL (a, b, c, d, e, f) = true ∧ d ≤ 1073741824
  · obtain ⟨hm, hd⟩ := hgo
    have KM1 := KM.out w1
    rw [hm] at KM1
    have KM1h := Lib.hid KM1
    have HM := Lib.hid hm
    have b100 : decide (d > 1073741824) = false := decide_eq_false (by omega)
    have HD := Lib.hid hd
    clear hm KM1 hd
    go_upto_region 5 with (go_at_call 11; refine KM1h.out.mono ?_; rintro en w2 ⟨rfl, hg2⟩; have HB2 := Lib.hid (HB1.out.trans (⟨hg2.os, hg2.tape, hg2.output, hg2.size, fun i hi => hg2.block i (Nat.lt_of_lt_of_le hi HB1.out.size) (by simp)⟩ : Below W.heap.size w1 w2)); clear c0 c1 c2 c3 c4 c5; obtain ⟨c0, c1, c2, c3, c4, c5⟩ := LC.out w2 HB2.out; (try dsimp only at c0 c1 c2 c3 c4 c5); clear hg2)
    have KN := Lib.hid (new_calls w2 a b c d e f HM.out)
    go_upto_region 8 with (go_at_call 8; refine KN.out.mono ?_; rintro en w3 ⟨g, bm, rfl, hT3, hg3, hbm3, hgr3⟩; have HB3 := Lib.hid (HB2.out.trans (⟨hgr3.os, hgr3.tape, hgr3.output, hgr3.size, fun i hi => hgr3.block i (Nat.lt_of_lt_of_le hi HB2.out.size) (by simp)⟩ : Below W.heap.size w2 w3)); have HG := Lib.hid (show W.heap.size ≤ g ∧ W.heap.size ≤ bm by have := HB2.out.size; omega); have HT3 := Lib.hid hT3; clear hT3 hg3 hbm3 hgr3)
    clear c0 c1 c2 c3 c4 c5 b100
    obtain ⟨c0, c1, c2, c3, c4, c5⟩ := LC.out w3 HB3.out
    (try dsimp only at c0 c1 c2 c3 c4 c5)
    obtain ⟨k, hk, hk1⟩ : ∃ k : Nat, (if a < (kk : Int) then a else (kk : Int)) = (k : Int) ∧ k < 100 ∧ (k : Int) ≤ a := by
      have h1 := ((mayL_iff _).1 HM.out).1
      have h2 := HK.out.2
      dsimp only at h1
      split
      · exact ⟨a.toNat, by omega, by omega, by omega⟩
      · exact ⟨kk, rfl, h2, by omega⟩
    have HK1 := Lib.hid hk1
    have hkk := HK.out.1
    clear hk1
    go_upto_region 9 with fail
    clear hk hkk
    go_wp2
    have hmm := (mayL_iff _).1 HM.out
    have hd := HD.out
    have hwB := HW.out
    obtain ⟨wv, hwv, hwv2⟩ : ∃ wv : Int, Int.tmod wt d = wv ∧ 0 ≤ wv ∧ wv < d ∧ wv ≤ 255 := by
      dsimp only at hmm
      refine ⟨Int.tmod wt d, rfl, ?_, ?_, ?_⟩
      · rw [Int.tmod_eq_emod_of_nonneg hwB.1]; exact Int.emod_nonneg _ (by omega)
      · rw [Int.tmod_eq_emod_of_nonneg hwB.1]; exact Int.emod_lt_of_pos _ (by omega)
      · rw [Int.tmod_eq_emod_of_nonneg hwB.1]
        have h1 : wt % d ≤ wt := by have h2 := Int.mul_ediv_add_emod wt d; have h3 : 0 ≤ wt / d := Int.ediv_nonneg hwB.1 (by omega); have h4 : 0 ≤ d * (wt / d) := Int.mul_nonneg (by omega) h3; omega
        omega
    have HDB := Lib.hid (show 1 ≤ d ∧ d ≤ 1073741824 by have := hmm; dsimp only at this; omega)
    have HWV := Lib.hid (show Int.tmod wt d = wv ∧ 0 ≤ wv ∧ wv < d ∧ wv ≤ 255 from ⟨hwv, hwv2⟩)
    clear hwv hwv2 hmm hd hwB
    by_cases hk0 : k = 0
    · have b1 : decide ((0 : Int) < (k : Int)) = false := decide_eq_false (by omega)
      have hkz : ((k : Int) == 0) = true := by rw [beq_iff_eq]; omega
      have hx2 : wrap64 (d + 300) = d + 300 := IntWalk.wrap64_in _ (by have := HDB.out; omega)
      have BR2 : Boxed w3 W0.heap.size 4 (.bool false) := (HB3.out.block _ (by have := HS2.out; omega)).trans HBR.out
      have BR2h := Lib.hid BR2
      have c6 := BR2.cell
      have f6 := BR2.frozen
      clear BR2
      refine wp_loop_rounds 3 (rounds_next 2 (fun K1 hK1 => ?_))
      go_upto_region 14 with fail
      refine wp_loop_rounds 1 (rounds_next 0 (fun K hK => ?_))
      go_wp2
      refine rounds_next 1 (fun K2 hK2 => ?_)
      go_upto_region 14 with fail
      refine wp_loop_rounds 1 (rounds_next 0 (fun K hK => ?_))
      go_wp2
      refine rounds_next 0 (fun K3 hK3 => ?_)
      go_wp2
      have c6' := (BR2h.out.set (.bool true)).cell
      refine ⟨.bool true, ?_, rfl, HBW.out.trans ((HB3.out.mono (by have := HS2.out; omega)).setCell (p := ⟨W0.heap.size, 0, none⟩) (by show w.heap.size ≤ W0.heap.size; have := HS2.out; omega) _)⟩
      simp [results, Try.f4, go_sem, c6']
    · by_cases hb0 : b = 0
      · have hk1 := HK1.out
        have b1 : decide ((0 : Int) < (k : Int)) = true := decide_eq_true (by omega)
        have hx2 : wrap64 (d + 300) = d + 300 := IntWalk.wrap64_in _ (by have := HDB.out; omega)
        have hbz : (b == 0) = true := by rw [beq_iff_eq]; exact hb0
        have hden := ainv_deny (l := (a, b, c, d, e, f)) (now := 0) (i := 0) (ainv_start 0) hb0
        have KR := res_calls w3 g bm 0 (a, b, c, d, e, f) [] 0 0 1 1 HT3.out (by refine ⟨by omega, by omega, by omega, by omega, by omega⟩) ris_nil (by omega) (by simp) (life_ok HM.out) (by omega)
        rw [show overL [] 0 = [] from rfl, show resG (a, b, c, d, e, f) [] 0 1 1 = (0, 7, []) by simpa using hden] at KR
        dsimp only at KR
        have KRh := Lib.hid KR
        clear KR hden hk1 hb0
        refine wp_loop_rounds 3 (rounds_next 2 (fun K1 hK1 => ?_))
        go_upto_region 14 with fail
        refine wp_loop_rounds 1 (rounds_next 0 (fun K hK => ?_))
        go_wp2_with (go_at_call 10; refine KRh.out.mono ?_; rintro en w5 ⟨n5, hn5, rfl, hT5, ht5⟩; clear c0 c1 c2 c3 c4 c5; have HB5 := Lib.hid (Touch.below HB3.out ht5 HG.out.1 HG.out.2 HB3.out.size); obtain ⟨c0, c1, c2, c3, c4, c5⟩ := LC.out w5 HB5.out; (try dsimp only at c0 c1 c2 c3 c4 c5); have BR2 : Boxed w5 W0.heap.size 4 (.bool false) := (HB5.out.block _ (by have := HS2.out; omega)).trans HBR.out; have BR2h := Lib.hid BR2; have c6 := BR2.cell; have f6 := BR2.frozen; clear BR2 hT5 ht5)
        have c6' := (BR2h.out.set (.bool true)).cell
        refine ⟨.bool true, ?_, rfl, HBW.out.trans ((HB5.out.mono (by have := HS2.out; omega)).setCell (p := ⟨W0.heap.size, 0, none⟩) (by show w.heap.size ≤ W0.heap.size; have := HS2.out; omega) _)⟩
        simp [results, Try.f4, go_sem, c6']
      · have hbp : 0 < b := by have h := (mayL_iff _).1 HM.out; dsimp only at h; omega
        have HBP := Lib.hid hbp
        have HK0 := Lib.hid (show 1 ≤ k by omega)
        clear hbp hb0 hk0
        refine wp_loop_rounds 3 (rounds_next 2 (fun K1 hK1 => ?_))
        have hx1 : IntKind.i64.wrap (d + 300) = d + 300 := IntWalk.i64_in _ (by have := HDB.out; omega)
        have hx2 : wrap64 (d + 300) = d + 300 := IntWalk.wrap64_in _ (by have := HDB.out; omega)
        have hdb := HDB.out
        skip
        go_upto_region 14 with fail
        clear hx1 hx2
        go_loopw [12] (fun v12 wr => ∃ (i : Nat) (L : List HeldP) (n' : Nat) (tn : Int), v12 = .int .i64 i ∧ i ≤ k ∧ n' ≤ 0 + i ∧ tn ≤ 0 ∧ Hid (TabAt wr g bm n' (a, b, c, d, e, f) L tn) ∧ Hid (PInv (0 + d) 0 i L) ∧ Hid (Touch g bm w3 wr)) (fun v12 _ => k - (intOf v12).toNat)
        case atStart => exact ⟨0, [], 0, 0, rfl, Nat.zero_le _, by omega, by omega, HT3, (Lib.hid (⟨ris_nil, by simp, .inl ⟨rfl, fun x hx => (List.not_mem_nil hx).elim⟩⟩ : PInv (0 + d) 0 0 [])), Lib.hid (Touch.refl _ _ _)⟩
        case round =>
          obtain ⟨i, L, n', tn, rfl, hik, hni, htn, HTr, HP, HTo⟩ := hrel
          have hdb := HDB.out
          have hk1 := HK1.out
          have HBr := Lib.hid (Touch.below HB3.out HTo.out HG.out.1 HG.out.2 HB3.out.size)
          obtain ⟨c0, c1, c2, c3, c4, c5⟩ := LC.out wr HBr.out
          (try dsimp only at c0 c1 c2 c3 c4 c5)
          by_cases hlt : i < k
          · have b1 : decide ((i : Int) < (k : Int)) = true := decide_eq_true (by omega)
            have hbp := HBP.out
            have hbz : (b == 0) = false := by rw [beq_eq_false_iff_ne]; omega
            have hi1 : i ≤ 100 := Nat.le_of_lt (Nat.lt_trans hlt hk1.1)
            have hw1 : wrap64 ((i : Int) + 1) = (i : Int) + 1 := w64_succ i hi1
            have hw2 : ((i : Int) + 1) % 4294967296 = (i : Int) + 1 := u32_succ i hi1
            have hw3 : wrap64 (d) = d := IntWalk.wrap64_in _ (by omega)
            have hcap : capT (0 + d) = 0 + d := by unfold capT; rw [if_neg (by omega)]
            obtain ⟨M, hM, hPM⟩ := pinv_step (l := (a, b, c, d, e, f)) HP.out (by omega) hbp (by dsimp only; omega) (by omega) hcap
            have KR := res_calls wr g bm n' (a, b, c, d, e, f) L tn 0 ((i : Int) + 1) ((i : Int) + 1) HTr.out (by refine ⟨by omega, by omega, by omega, htn, by omega⟩) HP.out.1 (by omega) (by have := HP.out.2.1; omega) (by dsimp only; omega) (by omega)
            rw [hM] at KR
            dsimp only at KR
            rw [Int.zero_add] at KR
            have KRh := Lib.hid KR
            have HPM := Lib.hid hPM
            have quu : (d != d) = false := by simp
            clear KR hM hPM hcap hbp hdb hk1
            go_wp2_with (go_at_call 10; refine KRh.out.mono ?_; rintro en w5 ⟨n5, hn5, rfl, hT5, ht5⟩; clear c0 c1 c2 c3 c4 c5; have HBr5 := Lib.hid (Touch.below HBr.out ht5 HG.out.1 HG.out.2 HBr.out.size); obtain ⟨c0, c1, c2, c3, c4, c5⟩ := LC.out w5 HBr5.out; (try dsimp only at c0 c1 c2 c3 c4 c5); have HT5 := Lib.hid hT5; have Ht5 := Lib.hid ht5; clear hT5 ht5)
            go_roundw
            case rel => exact ⟨i + 1, M, n5, 0, by go_num, Nat.succ_le_of_lt hlt, by omega, Int.le_refl _, HT5, HPM, Lib.hid (HTo.out.trans Ht5.out)⟩
            case measure => simp [intOf]; omega
          · have b1 : decide ((i : Int) < (k : Int)) = false := decide_eq_false (by omega)
            have hki : k = i := by omega
            subst hki
            have hk1 := HK1.out
            have hk0 := HK0.out
            have hkz : ((k : Int) == 0) = false := by rw [beq_eq_false_iff_ne]; omega
            have hwb := HWV.out
            have hwv := hwb.1
            have hwt := HWT.out
            have hdz : (d == 0) = false := by rw [beq_eq_false_iff_ne]; omega
            have hdz2 : d ≠ 0 := by omega
            go_upto_region 23 with fail
            clear hkz hdz hdz2 hwv hwt b1
            have hq1 : wrap64 (wv) = wv := IntWalk.wrap64_in _ (by omega)
            have hq2 : wrap64 (wv + d) = wv + d := IntWalk.wrap64_in _ (by omega)
            have hcap : capT (wv + d) = wv + d := by unfold capT; rw [if_neg (by omega)]
            have hAI := pinv_last HP.out hk0
            obtain ⟨M, hM, hBI⟩ := again_step (l := (a, b, c, d, e, f)) (t := wv) hAI hk0 (by omega) hcap
            have KR := res_calls wr g bm n' (a, b, c, d, e, f) L tn (wv) 1 1 HTr.out (by refine ⟨by omega, by omega, by omega, by omega, by omega⟩) HP.out.1 (by omega) (by have := HP.out.2.1; omega) (by dsimp only; omega) (by omega)
            rw [hM] at KR
            dsimp only at KR
            have KRh := Lib.hid KR
            have HBI := Lib.hid hBI
            have HOV := Lib.hid (show overL M (wv) = M from binv_over hBI (by omega) (by omega))
            have HTW := Lib.hid HTr.out.lt
            clear KR hM hBI hcap hAI
            go_upto_region 24 with (go_at_call 10; refine KRh.out.mono ?_; rintro en w5 ⟨n5, hn5, rfl, hT5, ht5⟩; have HT5 := Lib.hid hT5; have Ht5 := Lib.hid ht5; clear hT5 ht5)
            clear c0 c1 c2 c3 c4 c5
            obtain ⟨W5, hW5⟩ : ∃ X, w5.alloc (.cells #[.int .i64 (wv + d)] 3) = X := ⟨_, rfl⟩
            rw [hW5]
            go_upto_region 25 with fail
            obtain ⟨W6, hW6⟩ : ∃ X, W5.alloc (.cells #[.int .i64 0] 3) = X := ⟨_, rfl⟩
            have hb5 : Below w5.heap.size w5 W5 := by rw [← hW5]; exact (Below.refl _ _).alloc (Nat.le_refl _) _
            have hb6 : Below W5.heap.size W5 W6 := by rw [← hW6]; exact (Below.refl _ _).alloc (Nat.le_refl _) _
            have hs5 : W5.heap.size = w5.heap.size + 1 := by rw [← hW5]; simp
            have hs6 : W6.heap.size = w5.heap.size + 2 := by rw [← hW6]; simp; omega
            have B16 : Boxed W6 w5.heap.size 3 (.int .i64 (wv + d)) := (hb6.block _ (by omega)).trans (by rw [← hW5]; exact Boxed.new w5 _ _)
            have B18 : Boxed W6 W5.heap.size 3 (.int .i64 0) := by rw [← hW6]; exact Boxed.new W5 _ _
            have hT6 := tab_kept (tab_kept HT5.out hb5) hb6
            have KA := all_calls W6 g bm n5 (a, b, c, d, e, f) M (wv) (wv) hT6 HBI.out.1 (by rw [HBI.out.2.1]; omega)
            rw [onT_ok (Int.le_refl _) (by omega), HOV.out] at KA
            have KAH := Lib.hid KA
            skip
            have HW6 := Lib.hid (show W6.heap.size = w5.heap.size + 2 ∧ W5.heap.size = w5.heap.size + 1 from ⟨hs6, hs5⟩)
            have HB5 := Lib.hid (Touch.below HBr.out Ht5.out HG.out.1 HG.out.2 HBr.out.size)
            have HB6 := Lib.hid (HB5.out.trans ((hb5.trans (hb6.mono (by omega))).mono HB5.out.size))
            have HB16 := Lib.hid B16
            have HB18 := Lib.hid B18
            rw [hW6]
            clear hW5 hW6 hb5 hb6 hs5 hs6 B16 B18 hT6 KA
            go_wp2_with (go_at_call 9; refine KAH.out.mono ?_; rintro en w7 ⟨p1, p2, b2, rfl, hA7, hT7, ht7⟩)
            obtain ⟨A7, m7, cc7, a1, hm7, hrow7, a2, hown7, hp1, hp2, hb2⟩ := hA7
            subst hm7
            have h66 := HW6.out
            have hTs := ht7.2.2.2.1
            have hHG := HG.out
            have hTW := HTW.out
            have hT5s := Ht5.out.2.2.2.1
            have hB5s := HB5.out.size
            have hp1l : p1 < w7.heap.size := World.block_lt_of_cell? _ _ a1
            have hp2l : p2 < w7.heap.size := World.block_lt_of_cell? _ _ a2
            have hb2l := hown7.lt
            have b16 : Boxed w7 w5.heap.size 3 (.int .i64 (wv + d)) := (ht7.2.2.2.2 _ (by omega) (by omega) (by omega)).trans HB16.out
            have b18 : Boxed w7 (w5.heap.size + 1) 3 (.int .i64 0) := (ht7.2.2.2.2 _ (by omega) (by omega) (by omega)).trans (by have h := HB18.out; rw [h66.2] at h; exact h)
            have hB7 : Below W.heap.size W w7 := Touch.below HB6.out ht7 hHG.1 hHG.2 (by omega)
            skip
            have hrc := row_cells hrow7
            have hml := HBI.out.2.1
            obtain ⟨S, hS⟩ : ∃ S : Nat → Prop, S = fun b => b < w7.heap.size ∧ b ≠ w5.heap.size + 1 := ⟨_, rfl⟩
            have hSlt : ∀ b, S b → b < w7.heap.size := fun b hb => by rw [hS] at hb; exact hb.1
            have hSn : ¬ S (w5.heap.size + 1) := by rw [hS]; exact fun hb => hb.2 rfl
            have hSy : ∀ b, b < w7.heap.size → b ≠ w5.heap.size + 1 → S b := fun b h1 h2 => by rw [hS]; exact ⟨h1, h2⟩
            clear hS
            have seq := all_told 7 (by omega) S p1 p2 b2 n5 A7 cc7 M w7 (hSy p1 hp1l (by omega)) (hSy p2 hp2l (by omega)) (hSy b2 hb2l (by omega)) hSlt a1 a2 hown7 HBI.out.1 (by omega)
              (fun q hq => by have := HBI.out.2.2 q hq; unfold I64; omega)
              (fun V hV j hj => by
                rcases hrc with h0 | ⟨gr, hA, hgr, hgl, hX⟩
                · omega
                · exact ⟨_, hA, hX V (hV.2 gr (hSy gr hgl (by omega))) j hj⟩)
            refine (wpIn_wide (n := 8)).1 ?_
            refine range_told_box rfl (by omega) (gf := 17) (lb := #[.pointer (some ⟨p1, 0, none⟩), .pointer (some ⟨p2, 0, none⟩)]) rfl trivial (enters_of Try.func17 (by kernel_rfl) rfl)
              seq KeepS.trans (fun W l o o' hl h _ _ => KeepS.put W l o o' (fun hb => by have := hSlt l hb; omega) h) (Below.refl _ _) (fun _ => rfl) (fun _ _ _ _ _ _ _ _ h => h)
              (fun q => .cells (heldC q) 38) (fun V q hV => KeepS.below ((Below.refl _ V).alloc (Nat.le_refl _) _) (fun b hb => by have := hSlt b hb; omega)) (fun _ _ _ h => h)
              (fun pre V => KeepS S w7 V ∧ Boxed V (w5.heap.size + 1) 3 (.int .i64 pre.length) ∧ Below W.heap.size W V)
              ?hI0 ?h00 ?a10 ?assign0 ?body0 ?done0
            case assign0 =>
              intro l x W B K hB hK
              dsimp only [encsH, heldC] at hK ⊢
              gi_wp2
              exact hK
            case hI0 =>
              rintro s X Y row ⟨h1, h3, h5⟩ hg hr
              exact ⟨h1.grown hSlt hg (fun r e hb => by have := (hr r e).1; have := hSlt r hb; omega), boxed_own2 h3 hg (fun r e => (hr r e).2), h5.grown hg h5.size (fun k e => by have := (hr k e).1; have := hB7.size; omega)⟩
            case h00 => exact ⟨KeepS.refl _ _, b18, hB7⟩
            case body0 =>
              rintro lp pre x B V hB hbx ⟨hk, b18, hbl⟩ ⟨r, hr⟩
              have hx : x ∈ M := by rw [← hr]; simp
              have hmem := (HBI.out.2.2 x hx).2.2.1
              have hpl : pre.length < 100 := by have h := congrArg List.length hr; rw [List.length_append, List.length_cons] at h; omega
              obtain ⟨j, hj⟩ : ∃ j, pre.length = j := ⟨_, rfl⟩
              rw [hj] at b18 hpl
              have HJ := Lib.hid hj
              have Hk := Lib.hid hk
              have HSn := Lib.hid hSn
              have HBL := Lib.hid hbl
              obtain ⟨xp, xh, xu⟩ := x
              dsimp only at hmem
              obtain ⟨f0, f1, f2⟩ := held_cells hbx
              have e16 := hk.boxed (hSy _ (by omega) (by omega)) b16
              have c16 := e16.cell
              have c18 := b18.cell
              have x18 := b18.frozen
              have B18 := Lib.hid b18
              have hNE := Lib.hid (show W.heap.size ≤ w5.heap.size from hB5s)
              have hn1 : w5.heap.size < B := by omega
              have hw2 : wrap64 ((j : Int) + 1) = ((j + 1 : Nat) : Int) := w64_succ' j (by omega)
              clear hk hSn hSy hSlt seq hj hrc hrow7 hown7 a1 a2 ht7 hT7 b16 b18 hB7 hp1 hp2 hb2 hp1l hp2l hb2l hHG hTW hT5s hB5s h66 hTs hbx hbl hx hr hpl hB e16 hml hq1 hq2
              by_cases h1 : xp = 1
              · have hu := hmem h1
                subst h1
                subst hu
                have g1 : ((1 : Int) == 1) = true := by simp
                have g2 : (wv + d != wv + d) = false := by simp
                clear hmem
                gi_wp2
                refine ⟨(KeepsOthers.setCell _ _ _).from _, KeepS.setCell HSn.out _, Hk.out.trans (KeepS.setCell HSn.out _), ?_, HBL.out.setCell (p := ⟨w5.heap.size + 1, 0, none⟩) (by show W.heap.size ≤ w5.heap.size + 1; have := hNE.out; omega) _⟩
                rw [HJ.out]; exact B18.out.set _
              · have g1 : (xp == 1) = false := by simpa using h1
                clear hmem h1
                gi_wp2
                refine ⟨(KeepsOthers.setCell _ _ _).from _, KeepS.setCell HSn.out _, Hk.out.trans (KeepS.setCell HSn.out _), ?_, HBL.out.setCell (p := ⟨w5.heap.size + 1, 0, none⟩) (by show W.heap.size ≤ w5.heap.size + 1; have := hNE.out; omega) _⟩
                rw [HJ.out]; exact B18.out.set _
            case done0 =>
              rintro D0 xs X0 hD hxs ⟨hk, b18, hbl⟩ hK2
              have hxs : xs = M := hxs
              rw [hxs, hml] at b18
              have e16 := hk.boxed (hSy _ (by omega) (by omega)) b16
              have HDX0 := Lib.hid hK2
              skip
              have HTX0 := Lib.hid (show TabAt X0 g bm n5 (a, b, c, d, e, f) M (wv) from tab_keepS hT7 hk (hSy _ (by omega) (by omega)) (hSy _ (by omega) (by omega)))
              have HBX0 := Lib.hid hbl
              have HXD0 := Lib.hid (show g < D0 ∧ bm < D0 ∧ w7.heap.size ≤ D0 ∧ W.heap.size ≤ D0 by have := hB7.size; omega)
              obtain ⟨c0, c1, c2, c3, c4, c5⟩ := LC.out X0 hbl
              (try dsimp only at c0 c1 c2 c3 c4 c5)
              have c16 := e16.cell
              have c18 := b18.cell
              have c18' : X0.cell? ⟨W5.heap.size, 0, none⟩ = some (.int .i64 (k : Int)) := by rw [HW6.out.2]; exact c18
              have g1 : (wv + d != wv + d) = false := by simp
              have g2 : ((k : Int) != (k : Int)) = false := by simp
              have HLTw : w5.heap.size ≤ w7.heap.size := by omega
              clear hk hSn hSy hSlt seq hrc hrow7 hown7 a1 a2 ht7 hT7 b16 b18 hB7 hp1 hp2 hb2 hp1l hp2l hb2l hHG hTW hT5s hB5s h66 hTs hbl hxs hK2 e16 hml hD

              go_wp2
              have HPX0 := Lib.hid (show PInv (d + 300 + d) (d + 300) 0 M from binv_next HBI.out (by omega) (by omega) hk1.1)
              have hn6 : n5 ≤ 101 := by have := hk1.1; omega
              clear c16 c18 c18' g1 g2 hq1 hq2 hwb hk1 hn5 hni hik htn hk0 hdb hlt HLTw
              refine rounds_next 1 (fun K2 hK2 => ?_)

              have hx1 : IntKind.i64.wrap (d + 300) = d + 300 := IntWalk.i64_in _ (by have := HDB.out; omega)
              have hx2 : wrap64 (d + 300) = d + 300 := IntWalk.wrap64_in _ (by have := HDB.out; omega)
              have hdb := HDB.out
              have hwc := HWV.out.2
              go_upto_region 14 with fail
              clear hx1 hx2
              go_loopw [12] (fun v12 wr => ∃ (i : Nat) (L : List HeldP) (n' : Nat) (tn : Int), v12 = .int .i64 i ∧ i ≤ k ∧ n' ≤ 101 + i ∧ tn ≤ (d + 300) ∧ Hid (TabAt wr g bm n' (a, b, c, d, e, f) L tn) ∧ Hid (PInv ((d + 300) + d) (d + 300) i L) ∧ Hid (Touch g bm X0 wr)) (fun v12 _ => k - (intOf v12).toNat)
              case atStart => exact ⟨0, M, n5, wv, rfl, Nat.zero_le _, by omega, by omega, HTX0, HPX0, Lib.hid (Touch.refl _ _ _)⟩
              case round =>
                obtain ⟨i, L, n', tn, rfl, hik, hni, htn, HTr, HP, HTo⟩ := hrel
                have hdb := HDB.out
                have hk1 := HK1.out
                have HBr := Lib.hid (Touch.below HBX0.out HTo.out HG.out.1 HG.out.2 HBX0.out.size)
                obtain ⟨c0, c1, c2, c3, c4, c5⟩ := LC.out wr HBr.out
                (try dsimp only at c0 c1 c2 c3 c4 c5)
                by_cases hlt : i < k
                · have b1 : decide ((i : Int) < (k : Int)) = true := decide_eq_true (by omega)
                  have hbp := HBP.out
                  have hbz : (b == 0) = false := by rw [beq_eq_false_iff_ne]; omega
                  have hi1 : i ≤ 100 := Nat.le_of_lt (Nat.lt_trans hlt hk1.1)
                  have hw1 : wrap64 ((i : Int) + 1) = (i : Int) + 1 := w64_succ i hi1
                  have hw2 : ((i : Int) + 1) % 4294967296 = (i : Int) + 1 := u32_succ i hi1
                  have hw3 : wrap64 (d + 300 + d) = d + 300 + d := IntWalk.wrap64_in _ (by omega)
                  have hcap : capT ((d + 300) + d) = (d + 300) + d := by unfold capT; rw [if_neg (by omega)]
                  obtain ⟨M, hM, hPM⟩ := pinv_step (l := (a, b, c, d, e, f)) HP.out (by omega) hbp (by dsimp only; omega) (by omega) hcap
                  have KR := res_calls wr g bm n' (a, b, c, d, e, f) L tn (d + 300) ((i : Int) + 1) ((i : Int) + 1) HTr.out (by refine ⟨by omega, by omega, by omega, htn, by omega⟩) HP.out.1 (by omega) (by have := HP.out.2.1; omega) (by dsimp only; omega) (by omega)
                  rw [hM] at KR
                  dsimp only at KR
                  skip
                  have KRh := Lib.hid KR
                  have HPM := Lib.hid hPM
                  have quu : (d + 300 + d != d + 300 + d) = false := by simp
                  clear KR hM hPM hcap hbp hdb hk1
                  go_wp2_with (go_at_call 10; refine KRh.out.mono ?_; rintro en w5 ⟨n5, hn5, rfl, hT5, ht5⟩; clear c0 c1 c2 c3 c4 c5; have HBr5 := Lib.hid (Touch.below HBr.out ht5 HG.out.1 HG.out.2 HBr.out.size); obtain ⟨c0, c1, c2, c3, c4, c5⟩ := LC.out w5 HBr5.out; (try dsimp only at c0 c1 c2 c3 c4 c5); have HT5 := Lib.hid hT5; have Ht5 := Lib.hid ht5; clear hT5 ht5)
                  go_roundw
                  case rel => exact ⟨i + 1, M, n5, (d + 300), by go_num, Nat.succ_le_of_lt hlt, by omega, Int.le_refl _, HT5, HPM, Lib.hid (HTo.out.trans Ht5.out)⟩
                  case measure => simp [intOf]; omega
                · have b1 : decide ((i : Int) < (k : Int)) = false := decide_eq_false (by omega)
                  have hki : k = i := by omega
                  subst hki
                  have hk1 := HK1.out
                  have hk0 := HK0.out
                  have hkz : ((k : Int) == 0) = false := by rw [beq_eq_false_iff_ne]; omega
                  have hwb := HWV.out
                  have hwv := hwb.1
                  have hwt := HWT.out
                  have hdz : (d == 0) = false := by rw [beq_eq_false_iff_ne]; omega
                  have hdz2 : d ≠ 0 := by omega
                  go_upto_region 23 with fail
                  clear hkz hdz hdz2 hwv hwt b1
                  have hq1 : wrap64 (d + 300 + wv) = d + 300 + wv := IntWalk.wrap64_in _ (by omega)
                  have hq2 : wrap64 (d + 300 + wv + d) = d + 300 + wv + d := IntWalk.wrap64_in _ (by omega)
                  have hcap : capT (d + 300 + wv + d) = d + 300 + wv + d := by unfold capT; rw [if_neg (by omega)]
                  have hAI := pinv_last HP.out hk0
                  obtain ⟨M, hM, hBI⟩ := again_step (l := (a, b, c, d, e, f)) (t := d + 300 + wv) hAI hk0 (by omega) hcap
                  have KR := res_calls wr g bm n' (a, b, c, d, e, f) L tn (d + 300 + wv) 1 1 HTr.out (by refine ⟨by omega, by omega, by omega, by omega, by omega⟩) HP.out.1 (by omega) (by have := HP.out.2.1; omega) (by dsimp only; omega) (by omega)
                  rw [hM] at KR
                  dsimp only at KR
                  have KRh := Lib.hid KR
                  have HBI := Lib.hid hBI
                  have HOV := Lib.hid (show overL M (d + 300 + wv) = M from binv_over hBI (by omega) (by omega))
                  have HTW := Lib.hid HTr.out.lt
                  clear KR hM hBI hcap hAI
                  go_upto_region 24 with (go_at_call 10; refine KRh.out.mono ?_; rintro en w5 ⟨n5, hn5, rfl, hT5, ht5⟩; have HT5 := Lib.hid hT5; have Ht5 := Lib.hid ht5; clear hT5 ht5)
                  clear c0 c1 c2 c3 c4 c5
                  obtain ⟨W5, hW5⟩ : ∃ X, w5.alloc (.cells #[.int .i64 (d + 300 + wv + d)] 3) = X := ⟨_, rfl⟩
                  rw [hW5]
                  go_upto_region 25 with fail
                  obtain ⟨W6, hW6⟩ : ∃ X, W5.alloc (.cells #[.int .i64 0] 3) = X := ⟨_, rfl⟩
                  have hb5 : Below w5.heap.size w5 W5 := by rw [← hW5]; exact (Below.refl _ _).alloc (Nat.le_refl _) _
                  have hb6 : Below W5.heap.size W5 W6 := by rw [← hW6]; exact (Below.refl _ _).alloc (Nat.le_refl _) _
                  have hs5 : W5.heap.size = w5.heap.size + 1 := by rw [← hW5]; simp
                  have hs6 : W6.heap.size = w5.heap.size + 2 := by rw [← hW6]; simp; omega
                  have B16 : Boxed W6 w5.heap.size 3 (.int .i64 (d + 300 + wv + d)) := (hb6.block _ (by omega)).trans (by rw [← hW5]; exact Boxed.new w5 _ _)
                  have B18 : Boxed W6 W5.heap.size 3 (.int .i64 0) := by rw [← hW6]; exact Boxed.new W5 _ _
                  have hT6 := tab_kept (tab_kept HT5.out hb5) hb6
                  have KA := all_calls W6 g bm n5 (a, b, c, d, e, f) M (d + 300 + wv) (d + 300 + wv) hT6 HBI.out.1 (by rw [HBI.out.2.1]; omega)
                  rw [onT_ok (Int.le_refl _) (by omega), HOV.out] at KA
                  have KAH := Lib.hid KA
                  have HD6 := Lib.hid (show W6.heap[D0]? = some (.deferred (some [])) ∧ D0 < w5.heap.size by have h0 := (Array.getElem?_eq_some_iff.1 HDX0.out).1; have h1 := HTo.out.2.2.2.1; have h2 := Ht5.out.2.2.2.1; have h3 := HXD0.out; exact ⟨(hb6.block _ (by omega)).trans ((hb5.block _ (by omega)).trans ((Ht5.out.2.2.2.2 _ (by omega) (by omega) (by omega)).trans ((HTo.out.2.2.2.2 _ (by omega) (by omega) (by omega)).trans HDX0.out))), by omega⟩)
                  have HW6 := Lib.hid (show W6.heap.size = w5.heap.size + 2 ∧ W5.heap.size = w5.heap.size + 1 from ⟨hs6, hs5⟩)
                  have HB5 := Lib.hid (Touch.below HBr.out Ht5.out HG.out.1 HG.out.2 HBr.out.size)
                  have HB6 := Lib.hid (HB5.out.trans ((hb5.trans (hb6.mono (by omega))).mono HB5.out.size))
                  have HB16 := Lib.hid B16
                  have HB18 := Lib.hid B18
                  rw [hW6]
                  clear hW5 hW6 hb5 hb6 hs5 hs6 B16 B18 hT6 KA
                  go_wp2_with (go_at_call 9; refine KAH.out.mono ?_; rintro en w7 ⟨p1, p2, b2, rfl, hA7, hT7, ht7⟩)
                  obtain ⟨A7, m7, cc7, a1, hm7, hrow7, a2, hown7, hp1, hp2, hb2⟩ := hA7
                  subst hm7
                  have h66 := HW6.out
                  have hTs := ht7.2.2.2.1
                  have hHG := HG.out
                  have hTW := HTW.out
                  have hT5s := Ht5.out.2.2.2.1
                  have hB5s := HB5.out.size
                  have hp1l : p1 < w7.heap.size := World.block_lt_of_cell? _ _ a1
                  have hp2l : p2 < w7.heap.size := World.block_lt_of_cell? _ _ a2
                  have hb2l := hown7.lt
                  have b16 : Boxed w7 w5.heap.size 3 (.int .i64 (d + 300 + wv + d)) := (ht7.2.2.2.2 _ (by omega) (by omega) (by omega)).trans HB16.out
                  have b18 : Boxed w7 (w5.heap.size + 1) 3 (.int .i64 0) := (ht7.2.2.2.2 _ (by omega) (by omega) (by omega)).trans (by have h := HB18.out; rw [h66.2] at h; exact h)
                  have hB7 : Below W.heap.size W w7 := Touch.below HB6.out ht7 hHG.1 hHG.2 (by omega)
                  have hd7 : w7.heap[D0]? = some (.deferred (some [])) := (ht7.2.2.2.2 _ (by have := HD6.out.2; omega) (by have := HXD0.out; omega) (by have := HXD0.out; omega)).trans HD6.out.1
                  have hrc := row_cells hrow7
                  have hml := HBI.out.2.1
                  obtain ⟨S, hS⟩ : ∃ S : Nat → Prop, S = fun b => b < w7.heap.size ∧ b ≠ w5.heap.size + 1 := ⟨_, rfl⟩
                  have hSlt : ∀ b, S b → b < w7.heap.size := fun b hb => by rw [hS] at hb; exact hb.1
                  have hSn : ¬ S (w5.heap.size + 1) := by rw [hS]; exact fun hb => hb.2 rfl
                  have hSy : ∀ b, b < w7.heap.size → b ≠ w5.heap.size + 1 → S b := fun b h1 h2 => by rw [hS]; exact ⟨h1, h2⟩
                  clear hS
                  have seq := all_told 7 (by omega) S p1 p2 b2 n5 A7 cc7 M w7 (hSy p1 hp1l (by omega)) (hSy p2 hp2l (by omega)) (hSy b2 hb2l (by omega)) hSlt a1 a2 hown7 HBI.out.1 (by omega)
                    (fun q hq => by have := HBI.out.2.2 q hq; unfold I64; omega)
                    (fun V hV j hj => by
                      rcases hrc with h0 | ⟨gr, hA, hgr, hgl, hX⟩
                      · omega
                      · exact ⟨_, hA, hX V (hV.2 gr (hSy gr hgl (by omega))) j hj⟩)
                  refine (wpIn_wide (n := 8)).1 ?_
                  refine range_told_box rfl (by omega) (gf := 17) (lb := #[.pointer (some ⟨p1, 0, none⟩), .pointer (some ⟨p2, 0, none⟩)]) rfl trivial (enters_of Try.func17 (by kernel_rfl) rfl)
                    seq KeepS.trans (fun W l o o' hl h _ _ => KeepS.put W l o o' (fun hb => by have := hSlt l hb; omega) h) (Below.refl _ _) (fun _ => rfl) (fun _ _ _ _ _ _ _ _ h => h)
                    (fun q => .cells (heldC q) 38) (fun V q hV => KeepS.below ((Below.refl _ V).alloc (Nat.le_refl _) _) (fun b hb => by have := hSlt b hb; omega)) (fun _ _ _ h => h)
                    (fun pre V => KeepS S w7 V ∧ Boxed V (w5.heap.size + 1) 3 (.int .i64 pre.length) ∧ Below W.heap.size W V)
                    ?hI1 ?h01 ?a11 ?assign1 ?body1 ?done1
                  case assign1 =>
                    intro l x W B K hB hK
                    dsimp only [encsH, heldC] at hK ⊢
                    gi_wp2
                    exact hK
                  case hI1 =>
                    rintro s X Y row ⟨h1, h3, h5⟩ hg hr
                    exact ⟨h1.grown hSlt hg (fun r e hb => by have := (hr r e).1; have := hSlt r hb; omega), boxed_own2 h3 hg (fun r e => (hr r e).2), h5.grown hg h5.size (fun k e => by have := (hr k e).1; have := hB7.size; omega)⟩
                  case h01 => exact ⟨KeepS.refl _ _, b18, hB7⟩
                  case body1 =>
                    rintro lp pre x B V hB hbx ⟨hk, b18, hbl⟩ ⟨r, hr⟩
                    have hx : x ∈ M := by rw [← hr]; simp
                    have hmem := (HBI.out.2.2 x hx).2.2.1
                    have hpl : pre.length < 100 := by have h := congrArg List.length hr; rw [List.length_append, List.length_cons] at h; omega
                    obtain ⟨j, hj⟩ : ∃ j, pre.length = j := ⟨_, rfl⟩
                    rw [hj] at b18 hpl
                    have HJ := Lib.hid hj
                    have Hk := Lib.hid hk
                    have HSn := Lib.hid hSn
                    have HBL := Lib.hid hbl
                    obtain ⟨xp, xh, xu⟩ := x
                    dsimp only at hmem
                    obtain ⟨f0, f1, f2⟩ := held_cells hbx
                    have e16 := hk.boxed (hSy _ (by omega) (by omega)) b16
                    have c16 := e16.cell
                    have c18 := b18.cell
                    have x18 := b18.frozen
                    have B18 := Lib.hid b18
                    have hNE := Lib.hid (show W.heap.size ≤ w5.heap.size from hB5s)
                    have hn1 : w5.heap.size < B := by omega
                    have hw2 : wrap64 ((j : Int) + 1) = ((j + 1 : Nat) : Int) := w64_succ' j (by omega)
                    clear hk hSn hSy hSlt seq hj hrc hrow7 hown7 a1 a2 ht7 hT7 b16 b18 hB7 hp1 hp2 hb2 hp1l hp2l hb2l hHG hTW hT5s hB5s h66 hTs hbx hbl hx hr hpl hB e16 hml hq1 hq2 hd7
                    by_cases h1 : xp = 1
                    · have hu := hmem h1
                      subst h1
                      subst hu
                      have g1 : ((1 : Int) == 1) = true := by simp
                      have g2 : (d + 300 + wv + d != d + 300 + wv + d) = false := by simp
                      clear hmem
                      gi_wp2
                      refine ⟨(KeepsOthers.setCell _ _ _).from _, KeepS.setCell HSn.out _, Hk.out.trans (KeepS.setCell HSn.out _), ?_, HBL.out.setCell (p := ⟨w5.heap.size + 1, 0, none⟩) (by show W.heap.size ≤ w5.heap.size + 1; have := hNE.out; omega) _⟩
                      rw [HJ.out]; exact B18.out.set _
                    · have g1 : (xp == 1) = false := by simpa using h1
                      clear hmem h1
                      gi_wp2
                      refine ⟨(KeepsOthers.setCell _ _ _).from _, KeepS.setCell HSn.out _, Hk.out.trans (KeepS.setCell HSn.out _), ?_, HBL.out.setCell (p := ⟨w5.heap.size + 1, 0, none⟩) (by show W.heap.size ≤ w5.heap.size + 1; have := hNE.out; omega) _⟩
                      rw [HJ.out]; exact B18.out.set _
                  case done1 =>
                    rintro D1 xs X1 hD hxs ⟨hk, b18, hbl⟩ hK2
                    have hxs : xs = M := hxs
                    rw [hxs, hml] at b18
                    have e16 := hk.boxed (hSy _ (by omega) (by omega)) b16
                    have HDX1 := Lib.hid hK2
                    have hkD := hk.2 D0 (hSy _ (by have := HD6.out.2; omega) (by have := HD6.out.2; omega))
                    have HTX1 := Lib.hid (show TabAt X1 g bm n5 (a, b, c, d, e, f) M (d + 300 + wv) from tab_keepS hT7 hk (hSy _ (by omega) (by omega)) (hSy _ (by omega) (by omega)))
                    have HBX1 := Lib.hid hbl
                    have HXD1 := Lib.hid (show g < D1 ∧ bm < D1 ∧ w7.heap.size ≤ D1 ∧ W.heap.size ≤ D1 by have := hB7.size; omega)
                    obtain ⟨c0, c1, c2, c3, c4, c5⟩ := LC.out X1 hbl
                    (try dsimp only at c0 c1 c2 c3 c4 c5)
                    have c16 := e16.cell
                    have c18 := b18.cell
                    have c18' : X1.cell? ⟨W5.heap.size, 0, none⟩ = some (.int .i64 (k : Int)) := by rw [HW6.out.2]; exact c18
                    have g1 : (d + 300 + wv + d != d + 300 + wv + d) = false := by simp
                    have g2 : ((k : Int) != (k : Int)) = false := by simp
                    have HLTw : w5.heap.size ≤ w7.heap.size := by omega
                    clear hk hSn hSy hSlt seq hrc hrow7 hown7 a1 a2 ht7 hT7 b16 b18 hB7 hp1 hp2 hb2 hp1l hp2l hb2l hHG hTW hT5s hB5s h66 hTs hbl hxs hK2 e16 hml hD
                    have HDX0b := Lib.hid ((hkD.trans hd7 : X1.heap[D0]? = some (.deferred (some []))))
                    clear hkD hd7
                    go_wp2
                    have y6 : Boxed X1 W0.heap.size 4 (.bool false) := (HBX1.out.block _ (by have := HS2.out; omega)).trans HBR.out
                    have Y6 := Lib.hid y6
                    have HLT1 := Lib.hid (show w5.heap.size ≤ w7.heap.size from HLTw)
                    have c6 := y6.cell
                    have f6 := y6.frozen
                    clear y6 hq1 hq2 hwb
                    refine rounds_next 0 (fun K3 hK3 => ?_)
                    go_wp2
                    have hK' := (KeepsOthers.setCell X1 ⟨W0.heap.size, 0, none⟩ (.bool true)).same D1 _ HDX1.out rfl
                    have hD' := (KeepsOthers.setCell X1 ⟨W0.heap.size, 0, none⟩ (.bool true)).same D0 _ HDX0b.out rfl
                    have hdd := HS2.out
                    have hd1 := HXD1.out
                    have hd0 := HXD0.out
                    have hd6 := HD6.out.2
                    have hlt1 := HLT1.out
                    have hDD : ((X1.setCell ⟨W0.heap.size, 0, none⟩ (.bool true)).putObj D1 (.deferred none)).heap[D0]? = some (.deferred (some [])) := ((grownBy_putObj' _ D1 (.deferred none)).block D0 (Array.getElem?_eq_some_iff.1 hD').1 (fun e => by cases e; omega)).trans hD'
                    refine ⟨by simp, .inl ⟨_, _, rfl, run_takeDeferred hK', ?_⟩⟩
                    refine ⟨by simp, .inl ⟨_, _, rfl, run_takeDeferred hDD, ?_⟩⟩
                    have hc5 := boxed_own2 (Y6.out.set (.bool true)) (grownBy_putObj' _ D1 (.deferred none)) (fun r e => by cases e; exact ⟨_, hK', rfl⟩)
                    have hc6 := (boxed_own2 hc5 (grownBy_putObj' _ D0 (.deferred none)) (fun r e => by cases e; exact ⟨_, hDD, rfl⟩)).cell
                    refine ⟨.bool true, ?_, rfl, (((HBW.out.trans (HBX1.out.mono (by omega))).setCell (p := ⟨W0.heap.size, 0, none⟩) (by show w.heap.size ≤ W0.heap.size; omega) _).trans (belowK_b (w := w) (Nat.le_refl _) _ D1 _ _ (by omega) hK' rfl rfl)).trans (belowK_b (w := w) (Nat.le_refl _) _ D0 _ _ (by omega) hDD rfl rfl)⟩
                    simp [results, Try.f4, go_sem, hc6]
  · cases hm : mayL (a, b, c, d, e, f) with
    | false =>
      have KM1 := KM.out w1
      rw [hm] at KM1
      have KM1h := Lib.hid KM1
      clear KM1 hm hgo
      go_wp2_with (go_at_call 11; refine KM1h.out.mono ?_; rintro en w2 ⟨rfl, hg2⟩; have HB2 := Lib.hid (HB1.out.trans (⟨hg2.os, hg2.tape, hg2.output, hg2.size, fun i hi => hg2.block i (Nat.lt_of_lt_of_le hi HB1.out.size) (by simp)⟩ : Below W.heap.size w1 w2)); clear c0 c1 c2 c3 c4 c5; obtain ⟨c0, c1, c2, c3, c4, c5⟩ := LC.out w2 HB2.out; (try dsimp only at c0 c1 c2 c3 c4 c5); have BR2 : Boxed w2 W0.heap.size 4 (.bool false) := (HB2.out.block _ (by have := HS2.out; omega)).trans HBR.out; have c6 := BR2.cell; have f6 := BR2.frozen; clear hg2)
      have BR2h := Lib.hid BR2
      clear BR2
      have c6' := (BR2h.out.set (.bool true)).cell
      refine ⟨.bool true, ?_, rfl, HBW.out.trans ((HB2.out.mono (by have := HS2.out; omega)).setCell (p := ⟨W0.heap.size, 0, none⟩) (by show w.heap.size ≤ W0.heap.size; have := HS2.out; omega) _)⟩
      simp [results, Try.f4, go_sem, c6']
    | true =>
      have b100 : decide (d > 1073741824) = true := decide_eq_true (by rcases Int.lt_or_le 1073741824 d with h | h; exact h; exact absurd ⟨hm, h⟩ hgo)
      have KM1 := KM.out w1
      rw [hm] at KM1
      have KM1h := Lib.hid KM1
      clear KM1 hm hgo
      go_wp2_with (go_at_call 11; refine KM1h.out.mono ?_; rintro en w2 ⟨rfl, hg2⟩; have HB2 := Lib.hid (HB1.out.trans (⟨hg2.os, hg2.tape, hg2.output, hg2.size, fun i hi => hg2.block i (Nat.lt_of_lt_of_le hi HB1.out.size) (by simp)⟩ : Below W.heap.size w1 w2)); clear c0 c1 c2 c3 c4 c5; obtain ⟨c0, c1, c2, c3, c4, c5⟩ := LC.out w2 HB2.out; (try dsimp only at c0 c1 c2 c3 c4 c5); have BR2 : Boxed w2 W0.heap.size 4 (.bool false) := (HB2.out.block _ (by have := HS2.out; omega)).trans HBR.out; have c6 := BR2.cell; have f6 := BR2.frozen; clear hg2)
      have BR2h := Lib.hid BR2
      clear BR2
      have c6' := (BR2h.out.set (.bool true)).cell
      refine ⟨.bool true, ?_, rfl, HBW.out.trans ((HB2.out.mono (by have := HS2.out; omega)).setCell (p := ⟨W0.heap.size, 0, none⟩) (by show w.heap.size ≤ W0.heap.size; have := HS2.out; omega) _)⟩
      simp [results, Try.f4, go_sem, c6']
end Go.Proofs.Ytglpjoijkinlbaa.Rv
