/-
  addr: the walk of AddrParts. Conditions: as the theorems state them.
-/
import Derived.Test.YtjbhcaifmgbpgaaDoorAp
import Derived.Laws.DeepStrings4
namespace Go.Proofs.YtjbhcaifmgbpgaaDoor.Ad
open Go Go.RowKit Go.Shelf Go.Proofs.YtjbhcaifmgbpgaaDoorW.PrintWords Go.Proofs.YtjbhcaifmgbpgaaDoorW.PrintLast Go.Proofs.YtjbhcaifmgbpgaaDoorW.PrintMore
set_option linter.unusedVariables false
set_option linter.unusedSimpArgs false
attribute [local go_sem] Oper.semAt_some
theorem textV_cons (q : PlaceP) : textV q = textV (q.1, q.2.1, 0, false) ++ tailS q := by
  unfold textV
  rw [show tailS (q.1, q.2.1, 0, false) = [] from rfl]
  simp
theorem textV_mid (h p id : Int) : textV (h, p, id, false) = textV (h, p, 0, false) ++ (if 0 < id then p2W ++ dI id else []) := by
  rw [textV_cons]
  congr 1
  unfold tailS
  dsimp only
  rw [if_neg (show ¬ false = true by decide), List.append_nil]
  simp [p2W]
theorem textV_all (h p id : Int) (via : Bool) : textV (h, p, id, via) = textV (h, p, id, false) ++ (if via = true then ciW else []) := by
  rw [textV_cons, textV_cons (h, p, id, false), List.append_assoc]
  congr 1
  unfold tailS
  dsimp only
  rw [if_neg (show ¬ false = true by decide), List.append_nil]
  rfl
theorem hostS_len {h : Int} (hh : U32 h) : (hostS h).length ≤ 2000 := by
  have := preH_len hh 4
  rw [preH_four, List.length_append] at this
  omega
theorem bare_len {h p : Int} (hh : U32 h) (hp : p ≤ 65535) : (textV (h, p, 0, false)).length ≤ 100000 := by
  have h1 := hostS_len hh
  have h2 := dI_len hp (by decide)
  unfold textV
  rw [show tailS (h, p, 0, false) = [] from rfl]
  simp only [List.length_cons, List.length_append, List.length_nil]
  have : ip4W.length = 3 := rfl
  have : udpW.length = 3 := rfl
  simp only [Int.reduceToNat] at h2
  omega
theorem mayP_less {h p id : Int} {via : Bool} (hm : mayP (h, p, id, via) = true) : mayP (h, p, 0, false) = true ∧ mayP (h, p, id, false) = true := by
  have := (mayP_iff _).1 hm
  dsimp only at this
  rw [mayP_iff, mayP_iff]
  dsimp only
  exact ⟨⟨this.1, by decide, by decide, fun h => by cases h⟩, ⟨this.1, this.2.1, this.2.2.1, fun h => by cases h⟩⟩
theorem front_eq (a b : Str) : (((mk (a ++ b)).extract 0 a.length).toList == (mk a).toList) = true := by
  rw [Go.ByteArray.toList_eq, Go.ByteArray.toList_eq, mk_data, Lib.extract_data, mk_data]
  simp
set_option maxRecDepth 100000 in
set_option maxHeartbeats 8000000 in
theorem parts_calls (w : World) (hE : Env w) (h p id : Int) (via : Bool) (hh : U32 h) : Calls Tryd.prog 5 #[.agg #[.int .u32 h, .int .i64 p, .int .i64 id, .bool via]] w fun e w' => e = .returned (.bool true) ∧ Below w.heap.size w w' := by
  obtain ⟨W, hW⟩ : ∃ W, w.alloc (.cells #[.int .u32 h, .int .i64 p, .int .i64 id, .bool via] 26) = W := ⟨_, rfl⟩
  have hb : Below w.heap.size w W := by rw [← hW]; exact (Below.refl _ _).alloc (Nat.le_refl _) _
  have hp0 : PlAt W w.heap.size (h, p, id, via) := by rw [← hW]; exact new_cellsN _ _ _
  have HB := Lib.hid hb
  have HP := Lib.hid hp0
  have HENV := Lib.hid (hE.below hb)
  have HH := Lib.hid hh
  obtain ⟨d0, d1, d2, d3⟩ := hp0.cells.1
  dsimp only at d0 d1 d2 d3
  have KA := Lib.hid (awake_calls W (hE.below hb))
  have KT := Lib.hid (fun (V : World) (hV : Below W.heap.size W V) (i : Int) (b : Bool) => text_calls V ((hE.below hb).below hV) h p i b hh)
  clear hb hp0 hE hh
  obtain ⟨m, hm⟩ : ∃ m, mayP (h, p, id, via) = m := ⟨_, rfl⟩
  have KP := Lib.hid (fun (V : World) => refplace_calls V h p id via HH.out.1)
  rw [hm] at KP
  go_enter Tryd.func5, Tryd.ntmps5
  have HM := Lib.hid hm
  clear hm
  go_upto_region 3 with (go_at_call 9; refine KA.out.mono ?_; rintro e w1 ⟨rfl, hb1⟩; have HB1 := Lib.hid hb1; have HP1 := Lib.hid (HP.out.below hb1); clear hb1)
  obtain ⟨c0, c1, c2, c3⟩ := HP1.out.cells.1
  dsimp only at c0 c1 c2 c3
  cases m with
  | false =>
    have hz : textP (h, p, id, via) = [] := by unfold textP; rw [HM.out]; rfl
    have q0 : ((mk []).toList == ([] : List UInt8)) = true := by rw [Go.ByteArray.toList_eq, mk_data]; rfl
    go_upto_region 4 with (go_at_call 13; refine (KP.out _).mono ?_; rintro e w2 ⟨rfl, hb2⟩; have HB2 := Lib.hid (HB1.out.trans (hb2.mono HB1.out.size)); have HP2 := Lib.hid (HP1.out.below hb2); clear hb2)
    obtain ⟨c0, c1, c2, c3⟩ := HP2.out.cells.1
    dsimp only at c0 c1 c2 c3
    go_wp2_with (go_at_call 10; refine (KT.out _ HB2.out id via).mono ?_; rintro e w3 ⟨rfl, hb3⟩; rw [hz]; have HB3 := Lib.hid (HB2.out.trans (hb3.mono HB2.out.size)); clear hb3)
    go_ret
    exact ⟨rfl, HB.out.trans (HB3.out.mono HB.out.size)⟩
  | true =>
    go_upto_region 5 with (go_at_call 13; refine (KP.out _).mono ?_; rintro e w2 ⟨rfl, hb2⟩; have HB2 := Lib.hid (HB1.out.trans (hb2.mono HB1.out.size)); have HP2 := Lib.hid (HP1.out.below hb2); clear hb2)
    obtain ⟨c0, c1, c2, c3⟩ := HP2.out.cells.1
    dsimp only at c0 c1 c2 c3
    go_upto_region 6 with fail
    have hs2 := HB2.out.size
    obtain ⟨W3, hW3⟩ : ∃ W3, w2.alloc (.cells #[.int .u32 h, .int .i64 p, .int .i64 0, .bool false] 26) = W3 := ⟨_, rfl⟩
    have hb3 : Below w2.heap.size w2 W3 := by rw [← hW3]; exact (Below.refl _ _).alloc (Nat.le_refl _) _
    have hp3 : PlAt W3 w2.heap.size (h, p, 0, false) := by rw [← hW3]; exact new_cellsN _ _ _
    rw [hW3]
    clear hW3
    obtain ⟨g3, hg3⟩ : ∃ g, w2.heap.size = g := ⟨_, rfl⟩
    rw [hg3] at hp3 ⊢
    have HB3 := Lib.hid (HB2.out.trans (hb3.mono hs2))
    have HP3 := Lib.hid (HP2.out.below hb3)
    have HQ3 := Lib.hid hp3
    clear hb3 hp3 hs2 c0 c1 c2 c3 hg3
    obtain ⟨c0, c1, c2, c3⟩ := HP3.out.cells.1
    dsimp only at c0 c1 c2 c3
    go_upto_region 7 with fail
    have hs3 := HB3.out.size
    obtain ⟨W4, hW4⟩ : ∃ W4, W3.alloc (.cells #[.int .u32 h, .int .i64 p, .int .i64 id, .bool false] 26) = W4 := ⟨_, rfl⟩
    have hb4 : Below W3.heap.size W3 W4 := by rw [← hW4]; exact (Below.refl _ _).alloc (Nat.le_refl _) _
    have hp4 : PlAt W4 W3.heap.size (h, p, id, false) := by rw [← hW4]; exact new_cellsN _ _ _
    rw [hW4]
    clear hW4
    obtain ⟨g4, hg4⟩ : ∃ g, W3.heap.size = g := ⟨_, rfl⟩
    rw [hg4] at hp4 ⊢
    have HB4 := Lib.hid (HB3.out.trans (hb4.mono hs3))
    have HP4 := Lib.hid (HP3.out.below hb4)
    have HQ4 := Lib.hid (HQ3.out.below hb4)
    have HR4 := Lib.hid hp4
    clear hb4 hp4 hs3 c0 c1 c2 c3 hg4
    obtain ⟨c0, c1, c2, c3⟩ := HP4.out.cells.1
    dsimp only at c0 c1 c2 c3
    go_upto_region 8 with (go_at_call 10; refine (KT.out _ HB4.out id via).mono ?_; rintro e w5 ⟨rfl, hb5⟩; have HB5 := Lib.hid (HB4.out.trans (hb5.mono HB4.out.size)); have HP5 := Lib.hid (HP4.out.below hb5); have HQ5 := Lib.hid (HQ4.out.below hb5); have HR5 := Lib.hid (HR4.out.below hb5); clear hb5)
    clear c0 c1 c2 c3
    obtain ⟨c0, c1, c2, c3⟩ := HR5.out.cells.1
    dsimp only at c0 c1 c2 c3
    go_upto_region 9 with (go_at_call 10; refine (KT.out _ HB5.out id false).mono ?_; rintro e w6 ⟨rfl, hb6⟩; have HB6 := Lib.hid (HB5.out.trans (hb6.mono HB5.out.size)); have HP6 := Lib.hid (HP5.out.below hb6); have HQ6 := Lib.hid (HQ5.out.below hb6); clear hb6)
    clear c0 c1 c2 c3
    obtain ⟨c0, c1, c2, c3⟩ := HQ6.out.cells.1
    dsimp only at c0 c1 c2 c3
    go_upto_region 10 with (go_at_call 10; refine (KT.out _ HB6.out 0 false).mono ?_; rintro e w7 ⟨rfl, hb7⟩; have HB7 := Lib.hid (HB6.out.trans (hb7.mono HB6.out.size)); have HP7 := Lib.hid (HP6.out.below hb7); clear hb7)
    clear c0 c1 c2 c3
    obtain ⟨c0, c1, c2, c3⟩ := HP7.out.cells.1
    dsimp only at c0 c1 c2 c3
    have hmm := (mayP_iff _).1 HM.out
    dsimp only at hmm
    have hml := mayP_less HM.out
    rw [show textP (h, p, 0, false) = textV (h, p, 0, false) from if_pos hml.1, show textP (h, p, id, false) = textV (h, p, id, false) from if_pos hml.2, show textP (h, p, id, via) = textV (h, p, id, via) from if_pos HM.out, textV_all h p id via, textV_mid h p id]
    have hUl := bare_len HH.out hmm.1.2.2
    have hUn := textV_ne (h, p, 0, false)
    have hil := dI_len hmm.2.2.1 (by decide)
    simp only [Int.reduceToNat] at hil
    obtain ⟨U, hU⟩ : ∃ U, textV (h, p, 0, false) = U := ⟨_, rfl⟩
    rw [hU] at hUl hUn ⊢
    obtain ⟨A, hA⟩ : ∃ A, (if 0 < id then p2W ++ dI id else []) = A := ⟨_, rfl⟩
    obtain ⟨B, hB⟩ : ∃ B, (if via = true then ciW else []) = B := ⟨_, rfl⟩
    rw [hA, hB]
    have lp : p2W.length = 5 := rfl
    have lc : ciW.length = 12 := rfl
    have hAl : A.length ≤ 2147483700 := by
      rw [← hA]
      split
      · rw [List.length_append]; omega
      · simp
    have hBl : B.length ≤ 12 := by
      rw [← hB]
      split
      · omega
      · simp
    obtain ⟨T, hT⟩ : ∃ T, U ++ A = T := ⟨_, rfl⟩
    obtain ⟨S, hS⟩ : ∃ S, T ++ B = S := ⟨_, rfl⟩
    have hTl : U.length ≤ T.length := by rw [← hT, List.length_append]; omega
    have hSl : T.length ≤ S.length := by rw [← hS, List.length_append]; omega
    have q0 : ((mk U).toList == ([] : List UInt8)) = false := by
      rw [Go.ByteArray.toList_eq, mk_data, beq_eq_false_iff_ne]
      exact hUn
    have q1 : (((mk T).extract 0 U.length).toList == (mk U).toList) = true := by rw [← hT]; exact front_eq U A
    have q2 : (((mk S).extract 0 T.length).toList == (mk T).toList) = true := by rw [← hS]; exact front_eq T B
    have s1 := mk_size U
    have s2 := mk_size T
    have s3 := mk_size S
    have b1 : decide ((T.length : Int) < (U.length : Int)) = false := decide_eq_false (by omega)
    have b2 : decide ((S.length : Int) < (T.length : Int)) = false := decide_eq_false (by omega)
    have b3 : decide (T.length < U.length) = false := decide_eq_false (by omega)
    have b4 : decide (S.length < T.length) = false := decide_eq_false (by omega)
    have HX := Lib.hid (And.intro (And.intro hA hB) (And.intro hT hS))
    have HL := Lib.hid (And.intro hUl (And.intro hAl hBl))
    rw [hT, hS]
    clear hA hB hT hS hUl hAl hBl lp lc hil hUn hU
    go_upto_region 13 with fail
    clear q0 q1 q2 s1 s2 s3 b1 b2 b3 b4 hTl hSl
    have hfin : Hid (∀ x : Str, x = S → ((mk S).toList == (mk x).toList) = true) := Lib.hid (fun x hx => by rw [hx, str_eq, decide_eq_true rfl])
    have HMM := Lib.hid hmm
    have hll := HL.out
    have hxx := HX.out
    by_cases hid : 0 < id
    · have b1 : decide (id > 0) = true := decide_eq_true hid
      have hi2 := hmm.2.2.1
      rw [if_pos hid] at hxx
      have lp : p2W.length = 5 := rfl
      obtain ⟨R1, n1⟩ : ∃ R, U ++ p2W = R := ⟨_, rfl⟩
      have e2 : R1 ++ dI id = T := by rw [← hxx.2.1, ← hxx.1.1, ← n1]; simp
      have hAl := hll.2.1
      rw [← hxx.1.1, List.length_append] at hAl
      have k1 : R1.length ≤ 200000 := by rw [← n1, List.length_append]; omega
      have k2 : T.length ≤ 4294967296 := by rw [← e2, List.length_append]; omega
      have z1 : ¬ 9223372036854775807 < (mk U).size + (⟨#[47, 112, 50, 112, 47]⟩ : ByteArray).size := small2 (a := U) (b := p2W) (by omega) (by decide)
      have z1b : ¬ 9223372036854775807 < (mk U).size + 5 := z1
      have z2 := small2 (a := R1) (b := dI id) (by omega) (by omega)
      have a1 : mk U ++ (⟨#[47, 112, 50, 112, 47]⟩ : ByteArray) = mk R1 := by rw [show (⟨#[47, 112, 50, 112, 47]⟩ : ByteArray) = mk p2W from rfl, mk_app, n1]
      have a2 : mk R1 ++ mk (dI id) = mk T := by rw [mk_app, e2]
      have z3 : ¬ 9223372036854775807 < (mk T).size + (⟨#[47, 112, 50, 112, 45, 99, 105, 114, 99, 117, 105, 116]⟩ : ByteArray).size := small2 (a := T) (b := ciW) (by omega) (by decide)
      have z3b : ¬ 9223372036854775807 < (mk T).size + 12 := z3
      have KI2 := Lib.hid (digitsI_calls w7 id (by omega) (by omega))
      have HTS : Hid (T ++ B = S) := Lib.hid hxx.2.2
      have HBB : Hid ((if via = true then ciW else []) = B) := Lib.hid hxx.1.2
      clear hid n1 e2 k1 k2 lp hll hxx hmm hAl hml hi2
      go_upto_region 15 with (go_at_call 16; refine KI2.out.mono ?_; rintro e w8 ⟨rfl, hb8⟩; have HB8 := Lib.hid (HB7.out.trans (hb8.mono HB7.out.size)); have HP8 := Lib.hid (HP7.out.below hb8); clear hb8)
      clear c0 c1 c2 c3
      obtain ⟨c0, c1, c2, c3⟩ := HP8.out.cells.1
      dsimp only at c0 c1 c2 c3
      cases via with
      | true =>
        have a3 : mk T ++ (⟨#[47, 112, 50, 112, 45, 99, 105, 114, 99, 117, 105, 116]⟩ : ByteArray) = mk S := by rw [show (⟨#[47, 112, 50, 112, 45, 99, 105, 114, 99, 117, 105, 116]⟩ : ByteArray) = mk ciW from rfl, mk_app, ← HTS.out, ← HBB.out, if_pos rfl]
        have qf := hfin.out S rfl
        go_wp2
        go_ret
        exact ⟨rfl, HB.out.trans (HB8.out.mono HB.out.size)⟩
      | false =>
        have qf := hfin.out T (by rw [← HTS.out, ← HBB.out, if_neg (by decide), List.append_nil])
        go_wp2
        go_ret
        exact ⟨rfl, HB.out.trans (HB8.out.mono HB.out.size)⟩
    · have b1 : decide (id > 0) = false := decide_eq_false hid
      have hv : via = false := by
        cases via with
        | true => exact absurd (hmm.2.2.2 rfl) hid
        | false => rfl
      subst hv
      rw [if_neg hid, if_neg (by decide)] at hxx
      have qf := hfin.out U (by rw [← hxx.2.2, ← hxx.2.1, ← hxx.1.1, ← hxx.1.2]; simp)
      clear hid hxx hll hmm hml
      go_wp2
      go_ret
      exact ⟨rfl, HB.out.trans (HB7.out.mono HB.out.size)⟩
end Go.Proofs.YtjbhcaifmgbpgaaDoor.Ad
