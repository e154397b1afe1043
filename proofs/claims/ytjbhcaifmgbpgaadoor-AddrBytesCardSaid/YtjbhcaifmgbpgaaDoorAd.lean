/-
  addr: Bytes, and the document's. Conditions: as the theorems state them.
-/
import Derived.Test.YtjbhcaifmgbpgaaDoorAc
namespace Go.Proofs.YtjbhcaifmgbpgaaDoor.Ad
open Go Go.RowKit Go.Shelf Go.Proofs.YtjbhcaifmgbpgaaDoorW.PrintWords Go.Proofs.YtjbhcaifmgbpgaaDoorW.PrintLast Go.Proofs.YtjbhcaifmgbpgaaDoorW.PrintMore
set_option linter.unusedVariables false
set_option linter.unusedSimpArgs false
attribute [local go_sem] Oper.semAt_some
def bytesA (h p : Int) : List Int := [h / 16777216, h / 65536 % 256, h / 256 % 256, h % 256, p / 256, p % 256]
set_option maxRecDepth 100000 in
set_option maxHeartbeats 2000000 in
theorem bytes_yes (w : World) (h p : Int) (hh : U32 h) (hm : mayA h p = true) : Calls Tryd.prog 18 #[.agg #[.int .u32 h, .int .i64 p]] w fun e w' => ∃ g, e = .returned (.slice (some ⟨g, 0, none⟩) 6 6) ∧ w.heap.size ≤ g ∧ w'.heap[g]? = some (.cells ((bytesA h p).map (Value.int .u8)).toArray 5 (0, 0)) ∧ Below w.heap.size w w' := by
  have hmm := (mayA_iff h p).1 hm
  unfold U32 at hh
  obtain ⟨W, hW⟩ : ∃ W, w.alloc (.cells #[.int .u32 h, .int .i64 p] 24) = W := ⟨_, rfl⟩
  have hb : Below w.heap.size w W := by rw [← hW]; exact (Below.refl _ _).alloc (Nat.le_refl _) _
  have hc : W.heap[w.heap.size]? = some (.cells #[.int .u32 h, .int .i64 p] 24 (0, 0)) := by rw [← hW]; exact new_cellsN _ _ _
  have HB := Lib.hid hb
  have HC := Lib.hid hc
  have d0 := cell_cellsN hc 0 (by simp)
  have d1 := cell_cellsN hc 1 (by simp)
  simp only [List.getElem_toArray, List.getElem_cons_zero, List.getElem_cons_succ] at d0 d1
  have K := may_calls W h p
  rw [hm] at K
  have K := Lib.hid K
  clear hb hc hm
  go_enter Tryd.func18, Tryd.ntmps18
  go_wp2_with (go_at_call 17; refine K.out.mono ?_; rintro e w1 ⟨rfl, hb1⟩; have HB1 := Lib.hid hb1; have hc1 := (hb1.block w.heap.size (Array.getElem?_eq_some_iff.1 HC.out).1).trans HC.out; have f0 := cell_cellsN hc1 0 (by simp); have f1 := cell_cellsN hc1 1 (by simp); simp only [List.getElem_toArray, List.getElem_cons_zero, List.getElem_cons_succ] at f0 f1; clear hb1 hc1)
  go_ret
  have hs := HB1.out.size
  exact ⟨w1.heap.size, rfl, Nat.le_trans HB.out.size hs, new_cellsN _ _ _, HB.out.trans ((HB1.out.trans ((Below.refl _ _).alloc hs _)).mono HB.out.size)⟩
theorem bytes_no (w : World) (h p : Int) (hm : mayA h p = false) : Calls Tryd.prog 18 #[.agg #[.int .u32 h, .int .i64 p]] w fun e w' => e = .returned (.slice none 0 0) ∧ Below w.heap.size w w' := by
  obtain ⟨W, hW⟩ : ∃ W, w.alloc (.cells #[.int .u32 h, .int .i64 p] 24) = W := ⟨_, rfl⟩
  have hb : Below w.heap.size w W := by rw [← hW]; exact (Below.refl _ _).alloc (Nat.le_refl _) _
  have hc : W.heap[w.heap.size]? = some (.cells #[.int .u32 h, .int .i64 p] 24 (0, 0)) := by rw [← hW]; exact new_cellsN _ _ _
  have HB := Lib.hid hb
  have d0 := cell_cellsN hc 0 (by simp)
  have d1 := cell_cellsN hc 1 (by simp)
  simp only [List.getElem_toArray, List.getElem_cons_zero, List.getElem_cons_succ] at d0 d1
  have K := may_calls W h p
  rw [hm] at K
  have K := Lib.hid K
  clear hb hc hm
  go_enter Tryd.func18, Tryd.ntmps18
  go_wp2_with (go_at_call 17; refine K.out.mono ?_; rintro e w1 ⟨rfl, hb1⟩; have HB1 := Lib.hid hb1; clear hb1)
  go_ret
  exact ⟨rfl, HB.out.trans (HB1.out.mono HB.out.size)⟩
/-! ### Text -/
def bytesH (h : Int) (i : Nat) : Int := (bytesA h 0).getD i 0
def preH (h : Int) : Nat → Str
  | 0 => ipW
  | i + 1 => (if i = 0 then preH h i else preH h i ++ [46]) ++ dI (bytesH h i)
theorem preH_succ (h : Int) (i : Nat) : preH h (i + 1) = (if i = 0 then preH h i else preH h i ++ [46]) ++ dI (bytesH h i) := rfl
theorem preH_four (h : Int) : preH h 4 = ipW ++ hostS h := by
  simp [preH, bytesH, bytesA, hostS]
theorem bytesH_in {h : Int} (hh : U32 h) (i : Nat) : 0 ≤ bytesH h i ∧ bytesH h i ≤ 255 := by
  unfold U32 at hh
  unfold bytesH bytesA
  match i with
  | 0 => simp; omega
  | 1 => simp; omega
  | 2 => simp; omega
  | 3 => simp; omega
  | 4 => simp
  | 5 => simp
  | i + 6 => simp
theorem bytes_at {w : World} {g : Nat} {h p : Int} (hg : w.heap[g]? = some (.cells ((bytesA h p).map (Value.int .u8)).toArray 5 (0, 0))) (i : Nat) (hi : i < 4) : w.cell? ⟨g, i, none⟩ = some (.int .u8 (bytesH h i)) := by
  have hc := cell_cellsN hg i (by simp [bytesA]; omega)
  rw [hc]
  match i, hi with
  | 0, _ => rfl
  | 1, _ => rfl
  | 2, _ => rfl
  | 3, _ => rfl
theorem mk_app (a b : Str) : mk a ++ mk b = mk (a ++ b) := by
  apply ByteArray.ext
  apply Array.toList_inj.1
  simp [mk]
theorem dec_len (u : Nat) : (dec u).length ≤ u + 1 := by
  induction u using Nat.strongRecOn with
  | _ u ih =>
    by_cases h : u < 10
    · rw [dec_small h]; simp
    · rw [dec_big h, List.length_append, List.length_singleton]
      have := ih (u / 10) (by omega)
      omega
theorem dI_len {n m : Int} (h1 : n ≤ m) (h2 : 0 ≤ m) : (dI n).length ≤ m.toNat + 1 := by
  have := dec_len n.toNat
  unfold dI
  omega
theorem preH_len {h : Int} (hh : U32 h) : ∀ i : Nat, (preH h i).length ≤ 5 + 300 * i
  | 0 => by show ipW.length ≤ _; decide
  | i + 1 => by
    have ih := preH_len hh i
    have hb := dI_len (bytesH_in hh i).2 (by decide)
    unfold preH
    split
    · rw [List.length_append]; simp at hb; omega
    · rw [List.length_append, List.length_append, List.length_singleton]; simp at hb; omega
theorem small2 {a b : Str} (ha : a.length ≤ 4611686018427387903) (hb : b.length ≤ 4611686018427387903) : ¬ 9223372036854775807 < (mk a).size + (mk b).size := by rw [mk_size, mk_size]; omega
set_option maxRecDepth 100000 in
set_option maxHeartbeats 4000000 in
theorem text_yes (w : World) (hE : Env w) (h p id : Int) (via : Bool) (hh : U32 h) (hm : mayP (h, p, id, via) = true) : Calls Tryd.prog 10 #[.agg #[.int .u32 h, .int .i64 p, .int .i64 id, .bool via]] w fun e w' => e = .returned (.string (mk (textV (h, p, id, via)))) ∧ Below w.heap.size w w' := by
  have hmm := (mayP_iff _).1 hm
  dsimp only at hmm
  obtain ⟨W, hW⟩ : ∃ W, w.alloc (.cells #[.int .u32 h, .int .i64 p, .int .i64 id, .bool via] 26) = W := ⟨_, rfl⟩
  have hb : Below w.heap.size w W := by rw [← hW]; exact (Below.refl _ _).alloc (Nat.le_refl _) _
  have hc : W.heap[w.heap.size]? = some (.cells #[.int .u32 h, .int .i64 p, .int .i64 id, .bool via] 26 (0, 0)) := by rw [← hW]; exact new_cellsN _ _ _
  have HB := Lib.hid hb
  have PC := Lib.hid (fun (V : World) (hV : Below W.heap.size W V) => (show V.cell? ⟨w.heap.size, 0, none⟩ = some (.int .u32 h) ∧ V.cell? ⟨w.heap.size, 1, none⟩ = some (.int .i64 p) ∧ V.cell? ⟨w.heap.size, 2, none⟩ = some (.int .i64 id) ∧ V.cell? ⟨w.heap.size, 3, none⟩ = some (.bool via) from by
    have hv := (hV.block w.heap.size (Array.getElem?_eq_some_iff.1 hc).1).trans hc
    exact ⟨cell_cellsN hv 0 (by simp), cell_cellsN hv 1 (by simp), cell_cellsN hv 2 (by simp), cell_cellsN hv 3 (by simp)⟩))
  have HENV := Lib.hid (fun (V : World) (hV : Below W.heap.size W V) => hE.below (hb.trans (hV.mono hb.size)))
  have K := mayp_calls W h p id via
  rw [hm] at K
  have K := Lib.hid K
  have HH := Lib.hid hh
  obtain ⟨d0, d1, d2, d3⟩ := PC.out W (Below.refl _ _)
  have hma : mayA h p = true := (mayA_iff h p).2 hmm.1
  have HMM := Lib.hid hmm
  have HMA := Lib.hid hma
  clear hb hc hm hmm hma hh hE
  go_enter Tryd.func10, Tryd.ntmps10
  go_upto_region 3 with (go_at_call 12; refine K.out.mono ?_; rintro e w1 ⟨rfl, hb1⟩; have HB1 := Lib.hid hb1; clear hb1)
  obtain ⟨d0, d1, d2, d3⟩ := PC.out w1 HB1.out
  go_upto_region 4 with (go_at_call 18; refine (bytes_yes w1 h p HH.out HMA.out).mono ?_; rintro e w2 ⟨g, rfl, hg, hgc, hb2⟩; have HG := Lib.hid hgc; have HB2 := Lib.hid (HB1.out.trans (hb2.mono HB1.out.size)); clear hg hgc hb2)
  clear hW
  go_upto_region 6 with fail
  go_loopw [4, 16] (fun v4 v16 wr => ∃ i : Nat, v16 = .int .i64 i ∧ i ≤ 4 ∧ v4 = .string (mk (preH h i)) ∧ Hid (Below w2.heap.size w2 wr)) (fun _ v16 _ => 4 - (intOf v16).toNat)
  case atStart => exact ⟨0, rfl, by omega, rfl, Lib.hid (Below.refl _ _)⟩
  case round =>
    obtain ⟨i, rfl, hi, rfl, HBr⟩ := hrel
    have HBr2 := Lib.hid (HB2.out.trans (HBr.out.mono HB2.out.size))
    by_cases hlt : i < 4
    · have b1 : decide ((i : Int) < 4) = true := decide_eq_true (by omega)
      have hcell := bytes_at ((HBr.out.block g (Array.getElem?_eq_some_iff.1 HG.out).1).trans HG.out) i hlt
      have hbb := bytesH_in HH.out i
      obtain ⟨bb, hbv⟩ : ∃ b, bytesH h i = b := ⟨_, rfl⟩
      rw [hbv] at hcell hbb
      have hwb : wrap64 bb = bb := by unfold wrap64; omega
      have hiI : (i : Int) < 4 := by omega
      have KI := Lib.hid (itoa_calls wr (HENV.out wr HBr2.out) bb hbb.1 (by omega))
      have HBV := Lib.hid hbv
      have hpl := preH_len HH.out i
      have hdl := dI_len hbb.2 (by decide)
      have z1 := small2 (a := preH h i) (b := dI bb) (by omega) (by simp at hdl; omega)
      have z2 : ¬ 9223372036854775807 < (mk (preH h i)).size + (⟨#[46]⟩ : ByteArray).size := small2 (a := preH h i) (b := [46]) (by omega) (by decide)
      have z3 : ¬ 9223372036854775807 < (mk (preH h i) ++ ⟨#[46]⟩).size + (mk (dI bb)).size := by
        rw [show (⟨#[46]⟩ : ByteArray) = mk [46] from rfl, mk_app]
        exact small2 (by rw [List.length_append, List.length_singleton]; omega) (by simp at hdl; omega)
      clear hbv hpl hdl
      by_cases h0 : i = 0
      · have b2 : decide ((i : Int) > 0) = false := decide_eq_false (by omega)
        have b3 : decide (0 < i) = false := decide_eq_false (by omega)
        have H0 := Lib.hid h0
        clear h0
        go_wp2_with (go_at_call 26; refine KI.out.mono ?_; rintro e w3 ⟨rfl, hb3⟩; have HB3 := Lib.hid (HBr.out.trans (hb3.mono HBr.out.size)); clear hb3)
        go_roundw
        case rel => exact ⟨i + 1, by go_num, by omega, (by rw [mk_app]; show Value.string (mk _) = Value.string (mk (preH h (i + 1))); rw [preH_succ, if_pos H0.out, HBV.out]), HB3⟩
        case measure => simp [intOf]; omega
      · have b2 : decide ((i : Int) > 0) = true := decide_eq_true (by omega)
        have b3 : decide (0 < i) = true := decide_eq_true (by omega)
        have H0 := Lib.hid h0
        clear h0
        go_wp2_with (go_at_call 26; refine KI.out.mono ?_; rintro e w3 ⟨rfl, hb3⟩; have HB3 := Lib.hid (HBr.out.trans (hb3.mono HBr.out.size)); clear hb3)
        go_roundw
        case rel => exact ⟨i + 1, by go_num, by omega, (by rw [show (⟨#[46]⟩ : ByteArray) = mk [46] from rfl, mk_app, mk_app]; show Value.string (mk _) = Value.string (mk (preH h (i + 1))); rw [preH_succ, if_neg H0.out, HBV.out]), HB3⟩
        case measure => simp [intOf]; omega
    · have b1 : decide ((i : Int) < 4) = false := decide_eq_false (by omega)
      obtain rfl : i = 4 := by omega
      obtain ⟨d0, d1, d2, d3⟩ := PC.out wr HBr2.out
      have hmm := HMM.out
      obtain ⟨P, hP⟩ : ∃ P, preH h 4 = P := ⟨_, rfl⟩
      have hPl : P.length ≤ 10000 := by rw [← hP]; have := preH_len HH.out 4; omega
      have hpl := dI_len hmm.1.2.2 (by decide)
      have hil := dI_len hmm.2.2.1 (by decide)
      simp only [Int.reduceToNat] at hpl hil
      have c1 : mk P ++ ((⟨#[47, 117, 100, 112, 47]⟩ : ByteArray) ++ mk (dI p)) = mk (P ++ (udW ++ dI p)) := by rw [show (⟨#[47, 117, 100, 112, 47]⟩ : ByteArray) = mk udW from rfl, mk_app, mk_app]
      have y1 : ¬ 9223372036854775807 < (⟨#[47, 117, 100, 112, 47]⟩ : ByteArray).size + (mk (dI p)).size := small2 (a := udW) (b := dI p) (by decide) (by omega)
      have y2 : ¬ 9223372036854775807 < (mk P).size + ((⟨#[47, 117, 100, 112, 47]⟩ : ByteArray) ++ mk (dI p)).size := by
        rw [show (⟨#[47, 117, 100, 112, 47]⟩ : ByteArray) = mk udW from rfl, mk_app]
        exact small2 (by omega) (by rw [List.length_append]; show 5 + _ ≤ _; omega)
      have KI := Lib.hid (itoa_calls wr (HENV.out wr HBr2.out) p (by omega) (by omega))
      rw [hP]
      have HP := Lib.hid hP
      clear hP hmm
      go_upto_region 13 with (go_at_call 26; refine KI.out.mono ?_; rintro e w3 ⟨rfl, hb3⟩; have HB3 := Lib.hid (HBr2.out.trans (hb3.mono HBr2.out.size)); clear hb3)
      obtain ⟨d0, d1, d2, d3⟩ := PC.out w3 HB3.out
      obtain ⟨Q, hQ⟩ : ∃ Q, P ++ (udW ++ dI p) = Q := ⟨_, rfl⟩
      have hQl : Q.length ≤ 100000 := by rw [← hQ, List.length_append, List.length_append]; have : udW.length = 5 := rfl; omega
      rw [hQ]
      have HQ := Lib.hid hQ
      have hfin : ∀ T : Str, (Q ++ T = textV (h, p, id, via)) ↔ T = tailS (h, p, id, via) := fun T => by
        rw [← HQ.out, ← HP.out, preH_four]
        unfold textV
        simp [ipW, udW]
      have HF := Lib.hid hfin
      clear c1 y1 y2 hPl hQ hfin
      by_cases hid : 0 < id
      · have b1 : decide (id > 0) = true := decide_eq_true hid
        have c2 : mk Q ++ ((⟨#[47, 112, 50, 112, 47]⟩ : ByteArray) ++ mk (dI id)) = mk (Q ++ (p2W ++ dI id)) := by rw [show (⟨#[47, 112, 50, 112, 47]⟩ : ByteArray) = mk p2W from rfl, mk_app, mk_app]
        have y1 : ¬ 9223372036854775807 < (⟨#[47, 112, 50, 112, 47]⟩ : ByteArray).size + (mk (dI id)).size := small2 (a := p2W) (b := dI id) (by decide) (by omega)
        have y2 : ¬ 9223372036854775807 < (mk Q).size + ((⟨#[47, 112, 50, 112, 47]⟩ : ByteArray) ++ mk (dI id)).size := by
          rw [show (⟨#[47, 112, 50, 112, 47]⟩ : ByteArray) = mk p2W from rfl, mk_app]
          exact small2 (by omega) (by rw [List.length_append]; show 5 + _ ≤ _; omega)
        have hi2 := HMM.out.2.2.1
        have KI2 := Lib.hid (itoa_calls w3 (HENV.out w3 HB3.out) id (by omega) (by omega))
        have HID := Lib.hid hid
        clear hid
        go_upto_region 15 with (go_at_call 26; refine KI2.out.mono ?_; rintro e w4 ⟨rfl, hb4⟩; have HB4 := Lib.hid (HB3.out.trans (hb4.mono HB3.out.size)); clear hb4)
        obtain ⟨d0, d1, d2, d3⟩ := PC.out w4 HB4.out
        cases via with
        | true =>
          have c3 : mk (Q ++ (p2W ++ dI id)) ++ (⟨#[47, 112, 50, 112, 45, 99, 105, 114, 99, 117, 105, 116]⟩ : ByteArray) = mk (Q ++ (p2W ++ dI id) ++ ciW) := by rw [show (⟨#[47, 112, 50, 112, 45, 99, 105, 114, 99, 117, 105, 116]⟩ : ByteArray) = mk ciW from rfl, mk_app]
          have y3 : ¬ 9223372036854775807 < (mk (Q ++ (p2W ++ dI id))).size + (⟨#[47, 112, 50, 112, 45, 99, 105, 114, 99, 117, 105, 116]⟩ : ByteArray).size := small2 (a := Q ++ (p2W ++ dI id)) (b := ciW) (by rw [List.length_append, List.length_append]; have : p2W.length = 5 := rfl; omega) (by decide)
          go_wp2
          go_ret
          refine ⟨?_, HB.out.trans (HB4.out.mono HB.out.size)⟩
          have e : Q ++ (p2W ++ (dI id ++ ciW)) = textV (h, p, id, true) := by
            refine (HF.out _).2 ?_
            unfold tailS
            dsimp only
            rw [if_pos HID.out, if_pos rfl]
            simp [p2W, ciW]
          show Ending.returned (.string (mk (Q ++ (p2W ++ (dI id ++ ciW))))) = _
          rw [e]
        | false =>
          go_wp2
          go_ret
          refine ⟨?_, HB.out.trans (HB4.out.mono HB.out.size)⟩
          have e : Q ++ (p2W ++ dI id) = textV (h, p, id, false) := by
            refine (HF.out _).2 ?_
            unfold tailS
            dsimp only
            rw [if_pos HID.out, if_neg (by decide)]
            simp [p2W]
          show Ending.returned (.string (mk (Q ++ (p2W ++ dI id)))) = _
          rw [e]
      · have b1 : decide (id > 0) = false := decide_eq_false hid
        have hv : via = false := by
          cases via with
          | true => exact absurd (HMM.out.2.2.2 rfl) hid
          | false => rfl
        subst hv
        have HID := Lib.hid hid
        clear hid
        go_wp2
        go_ret
        refine ⟨?_, HB.out.trans (HB3.out.mono HB.out.size)⟩
        have e : Q ++ [] = textV (h, p, id, false) := by
          refine (HF.out _).2 ?_
          unfold tailS
          dsimp only
          rw [if_neg (by have := HID.out; omega), if_neg (by decide)]
          rfl
        rw [List.append_nil] at e
        show Ending.returned (.string (mk Q)) = _
        rw [e]
theorem text_no (w : World) (h p id : Int) (via : Bool) (hm : mayP (h, p, id, via) = false) : Calls Tryd.prog 10 #[.agg #[.int .u32 h, .int .i64 p, .int .i64 id, .bool via]] w fun e w' => e = .returned (.string (mk [])) ∧ Below w.heap.size w w' := by
  obtain ⟨W, hW⟩ : ∃ W, w.alloc (.cells #[.int .u32 h, .int .i64 p, .int .i64 id, .bool via] 26) = W := ⟨_, rfl⟩
  have hb : Below w.heap.size w W := by rw [← hW]; exact (Below.refl _ _).alloc (Nat.le_refl _) _
  have hc : W.heap[w.heap.size]? = some (.cells #[.int .u32 h, .int .i64 p, .int .i64 id, .bool via] 26 (0, 0)) := by rw [← hW]; exact new_cellsN _ _ _
  have HB := Lib.hid hb
  have d0 := cell_cellsN hc 0 (by simp)
  have d1 := cell_cellsN hc 1 (by simp)
  have d2 := cell_cellsN hc 2 (by simp)
  have d3 := cell_cellsN hc 3 (by simp)
  simp only [List.getElem_toArray, List.getElem_cons_zero, List.getElem_cons_succ] at d0 d1 d2 d3
  have K := mayp_calls W h p id via
  rw [hm] at K
  have K := Lib.hid K
  clear hb hc hm
  go_enter Tryd.func10, Tryd.ntmps10
  go_wp2_with (go_at_call 12; refine K.out.mono ?_; rintro e w1 ⟨rfl, hb1⟩; have HB1 := Lib.hid hb1; clear hb1)
  go_ret
  exact ⟨rfl, HB.out.trans (HB1.out.mono HB.out.size)⟩
/-- Text: the place's text, or none. -/
theorem text_calls (w : World) (hE : Env w) (h p id : Int) (via : Bool) (hh : U32 h) : Calls Tryd.prog 10 #[.agg #[.int .u32 h, .int .i64 p, .int .i64 id, .bool via]] w fun e w' => e = .returned (.string (mk (textP (h, p, id, via)))) ∧ Below w.heap.size w w' := by
  unfold textP
  cases hm : mayP (h, p, id, via) with
  | true => rw [if_pos rfl]; exact text_yes w hE h p id via hh hm
  | false => rw [if_neg (by decide)]; exact text_no w h p id via hm
end Go.Proofs.YtjbhcaifmgbpgaaDoor.Ad
