/-
  addr: answers that the document fixes. Conditions: as the theorems state them.
-/
import Derived.Test.YtjbhcaifmgbpgaaDoorAn
namespace Go.Proofs.YtjbhcaifmgbpgaaDoor.Ad
open Go Go.RowKit Go.Shelf Go.Proofs.YtjbhcaifmgbpgaaDoorW.PrintWords Go.Proofs.YtjbhcaifmgbpgaaDoorW.PrintLast Go.Proofs.YtjbhcaifmgbpgaaDoorW.PrintMore
set_option linter.unusedVariables false
set_option linter.unusedSimpArgs false
attribute [local go_sem] Oper.semAt_some
def aw1 : Str := [47, 105, 112, 52, 47, 49, 48, 46, 48, 46, 48, 46, 49, 47, 117, 100, 112, 47, 52, 48, 48, 49, 47, 112, 50, 112, 47, 55, 47, 112, 50, 112, 45, 99, 105, 114, 99, 117, 105, 116]
def aw2 : Str := [47, 105, 112, 52, 47, 49, 48, 46, 48, 46, 48, 46, 49, 47, 117, 100, 112, 47, 48]
def aw3 : Str := [47, 105, 112, 52, 47, 48, 46, 48, 46, 48, 46, 49, 47, 117, 100, 112, 47, 50]
theorem dI_sm {n : Int} (h : n.toNat < 10) : dI n = [UInt8.ofNat (48 + n.toNat)] := dec_small h
theorem dI_10 : dI 10 = [49, 48] := by
  show dec 10 = _
  rw [dec_big (by decide), dec_small (by decide)]
  rfl
theorem dI_4001 : dI 4001 = [52, 48, 48, 49] := by
  show dec 4001 = _
  rw [dec_big (by decide), dec_big (by decide), dec_big (by decide), dec_small (by decide)]
  rfl
theorem aw1_is : textV (167772161, 4001, 7, true) = aw1 := by
  unfold textV hostS tailS
  dsimp only
  rw [if_pos (by decide), if_pos rfl, show (167772161 : Int) / 16777216 = 10 from rfl, show (167772161 : Int) / 65536 % 256 = 0 from rfl, show (167772161 : Int) / 256 % 256 = 0 from rfl, show (167772161 : Int) % 256 = 1 from rfl, dI_10, dI_4001, dI_sm (by decide), dI_sm (by decide), dI_sm (by decide)]
  rfl
theorem aw3_is : textP (1, 2, 0, false) = aw3 := by
  unfold textP
  rw [if_pos (by decide)]
  unfold textV hostS tailS
  dsimp only
  rw [if_neg (by decide), if_neg (by decide), show (1 : Int) / 16777216 = 0 from rfl, show (1 : Int) / 65536 % 256 = 0 from rfl, show (1 : Int) / 256 % 256 = 0 from rfl, show (1 : Int) % 256 = 1 from rfl, dI_sm (by decide), dI_sm (by decide), dI_sm (by decide)]
  rfl
theorem aw1_read : parseR aw1 = ((167772161, 4001, 7, true), 0) := parseR_some (by rw [← aw1_is]; exact parse_text (by decide) (by unfold U32; decide))
theorem aw2_read : parseR aw2 = (zP, 3) := parseR_none (by
  unfold parseF
  rw [show split1 47 aw2 = [[], ip4W, [49, 48, 46, 48, 46, 48, 46, 49], udpW, [48]] from rfl]
  show parse5 _ _ _ _ _ = none
  unfold parse5
  refine if_neg ?_
  rintro ⟨_, _, _, _, _, h⟩
  have := ((mayP_iff _).1 h).1.2.1
  have e : (val [48] : Int) = 0 := rfl
  rw [e] at this
  exact absurd this (by decide))
set_option maxRecDepth 100000 in
set_option maxHeartbeats 4000000 in
theorem awake_calls (w : World) (hE : Env w) : Calls Tryd.prog 9 #[] w fun e w' => e = .returned (.bool true) ∧ Below w.heap.size w w' := by
  have HENV := Lib.hid hE
  have K1 : Hid (Calls Tryd.prog 14 #[.string (mk aw1)] w fun e w' => e = .returned (.tuple #[.agg #[.int .u32 167772161, .int .i64 4001, .int .i64 7, .bool true], .int .i64 0]) ∧ Below w.heap.size w w') := Lib.hid ((parse_calls w hE (mk aw1) (by decide)).mono (fun e w' h => by
    obtain ⟨h1, h2⟩ := h
    rw [mk_data, aw1_read] at h1
    exact ⟨h1, h2⟩))
  have K2 : Hid (∀ V, Env V → Calls Tryd.prog 14 #[.string (mk aw2)] V fun e w' => e = .returned (.tuple #[.agg #[.int .u32 0, .int .i64 0, .int .i64 0, .bool false], .int .i64 3]) ∧ Below V.heap.size V w') := Lib.hid (fun V hV => (parse_calls V hV (mk aw2) (by decide)).mono (fun e w' h => by
    obtain ⟨h1, h2⟩ := h
    rw [mk_data, aw2_read] at h1
    exact ⟨h1, h2⟩))
  have K3 : Hid (∀ V, Env V → Calls Tryd.prog 10 #[.agg #[.int .u32 1, .int .i64 2, .int .i64 0, .bool false]] V fun e w' => e = .returned (.string (mk aw3)) ∧ Below V.heap.size V w') := Lib.hid (fun V hV => by
    have := text_calls V hV 1 2 0 false (by unfold U32; decide)
    rwa [aw3_is] at this)
  clear hE
  go_enter Tryd.func9, Tryd.ntmps9
  go_upto_region 2 with (go_at_call 14; refine K1.out.mono ?_; rintro e w1 ⟨rfl, hb1⟩; have HB1 := Lib.hid hb1; clear hb1)
  obtain ⟨W1, hW1⟩ : ∃ W1, w1.alloc (.cells #[.int .u32 167772161, .int .i64 4001, .int .i64 7, .bool true] 26) = W1 := ⟨_, rfl⟩
  have hb1 : Below w.heap.size w W1 := by rw [← hW1]; exact HB1.out.alloc HB1.out.size _
  have hp1 : PlAt W1 w1.heap.size (167772161, 4001, 7, true) := by rw [← hW1]; exact new_cellsN _ _ _
  rw [hW1]
  clear hW1
  have HBW := Lib.hid hb1
  have HP1 := Lib.hid hp1
  clear hb1 hp1
  go_upto_region 3 with (go_at_call 14; refine (K2.out W1 (HENV.out.below HBW.out)).mono ?_; rintro e w2 ⟨rfl, hb2⟩; have HB2 := Lib.hid (HBW.out.trans (hb2.mono HBW.out.size)); have HP2 := Lib.hid (HP1.out.below hb2); clear hb2)
  obtain ⟨W2, hW2⟩ : ∃ W2, w2.alloc (.cells #[.int .u32 0, .int .i64 0, .int .i64 0, .bool false] 26) = W2 := ⟨_, rfl⟩
  have hb2 : Below w2.heap.size w2 W2 := by rw [← hW2]; exact (Below.refl _ _).alloc (Nat.le_refl _) _
  have hp2 := HP2.out.below hb2
  rw [hW2]
  clear hW2
  obtain ⟨d0, d1, d2, d3⟩ := hp2.cells.1
  dsimp only at d0 d1 d2 d3
  have HB3 := Lib.hid (HB2.out.trans (hb2.mono HB2.out.size))
  clear hb2 hp2
  have q : ((mk aw3).toList == [47, 105, 112, 52, 47, 48, 46, 48, 46, 48, 46, 49, 47, 117, 100, 112, 47, 50]) = true := by rw [Go.ByteArray.toList_eq, mk_data]; rfl
  go_wp2_with (go_at_call 10; refine (K3.out W2 (HENV.out.below HB3.out)).mono ?_; rintro e w3 ⟨rfl, hb3⟩; have HB4 := Lib.hid (HB3.out.trans (hb3.mono HB3.out.size)); clear hb3)
  go_ret
  exact ⟨rfl, HB4.out⟩
end Go.Proofs.YtjbhcaifmgbpgaaDoor.Ad
