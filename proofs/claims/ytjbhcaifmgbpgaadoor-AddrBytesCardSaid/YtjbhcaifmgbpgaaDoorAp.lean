/-
  addr: the walks of the laws of texts. Conditions: as the theorems state them.
-/
import Derived.Test.YtjbhcaifmgbpgaaDoorAo
namespace Go.Proofs.YtjbhcaifmgbpgaaDoor.Ad
open Go Go.RowKit Go.Shelf Go.Proofs.YtjbhcaifmgbpgaaDoorW.PrintWords Go.Proofs.YtjbhcaifmgbpgaaDoorW.PrintLast Go.Proofs.YtjbhcaifmgbpgaaDoorW.PrintMore
set_option linter.unusedVariables false
set_option linter.unusedSimpArgs false
attribute [local go_sem] Oper.semAt_some
theorem parseR_cases (s : Str) : (∃ q, parseR s = (q, 0) ∧ U32 q.1 ∧ textP q = s) ∨ parseR s = (zP, 3) := by
  cases hp : parseF s with
  | none => exact .inr (parseR_none hp)
  | some q =>
    obtain ⟨h1, h2, h3⟩ := parse_some hp
    exact .inl ⟨q, parseR_some hp, h3, by unfold textP; rw [if_pos h1, h2]⟩
set_option maxRecDepth 100000 in
set_option maxHeartbeats 8000000 in
theorem reads_calls (w : World) (hE : Env w) (s : ByteArray) : Calls Tryd.prog 4 #[.string s] w fun e w' => e = .returned (.bool true) ∧ Below w.heap.size w w' := by
  have HENV := Lib.hid hE
  have KA := Lib.hid (awake_calls w hE)
  clear hE
  go_enter Tryd.func4, Tryd.ntmps4
  go_upto_region 3 with (go_at_call 9; refine KA.out.mono ?_; rintro e w1 ⟨rfl, hb1⟩; have HB1 := Lib.hid hb1; clear hb1)
  by_cases hs : 300 < s.size
  · have b1 : decide ((s.size : Int) > 300) = true := decide_eq_true (by omega)
    have b2 : decide (300 < s.size) = true := decide_eq_true hs
    have b3 : decide ((300 : Int) < s.size) = true := decide_eq_true (by omega)
    clear hs
    go_wp2
    go_ret
    exact ⟨rfl, HB1.out⟩
  · have b1 : decide ((s.size : Int) > 300) = false := decide_eq_false (by omega)
    have b2 : decide (300 < s.size) = false := decide_eq_false hs
    have b3 : decide ((300 : Int) < s.size) = false := decide_eq_false (by omega)
    obtain ⟨pr, hpr⟩ : ∃ pr, parseR s.data.toList = pr := ⟨_, rfl⟩
    have hcs := parseR_cases s.data.toList
    rw [hpr] at hcs
    have K1 : Hid (Calls Tryd.prog 14 #[.string s] w1 fun e w' => e = .returned (.tuple #[placeV pr.1, .int .i64 pr.2]) ∧ Below w1.heap.size w1 w') := Lib.hid ((parse_calls w1 (HENV.out.below HB1.out) s (by omega)).mono (fun e w' h => ⟨by rw [← hpr]; exact h.1, (by
      refine ⟨h.2.os, h.2.tape, h.2.output, h.2.size, fun i hi => h.2.block i hi⟩)⟩))
    have K2 : Hid (∀ V, Calls Tryd.prog 15 #[.string s] V fun e w' => e = .returned (.tuple #[placeV pr.1, .int .i64 pr.2]) ∧ Below V.heap.size V w') := Lib.hid (fun V => (refparse_calls V s.data.toList (by show s.size ≤ _; omega)).mono (fun e w' h => ⟨by rw [← hpr]; exact h.1, h.2⟩))
    have HSZ := Lib.hid hs
    clear hs hpr
    rcases hcs with ⟨⟨H, Q, I, B⟩, rfl, hu, ht⟩ | rfl
    · dsimp only [placeV] at K1 K2
      have HU := Lib.hid hu
      have HT := Lib.hid ht
      clear hu ht
      go_upto_region 6 with (go_at_call 14; refine K1.out.mono ?_; rintro e w2 ⟨rfl, hb2⟩; have HB2 := Lib.hid (HB1.out.trans (hb2.mono HB1.out.size)); clear hb2)
      obtain ⟨W2, hW2⟩ : ∃ W2, w2.alloc (.cells #[.int .u32 H, .int .i64 Q, .int .i64 I, .bool B] 26) = W2 := ⟨_, rfl⟩
      have hb2 : Below w2.heap.size w2 W2 := by rw [← hW2]; exact (Below.refl _ _).alloc (Nat.le_refl _) _
      have hp2 : PlAt W2 w2.heap.size (H, Q, I, B) := by rw [← hW2]; exact new_cellsN _ _ _
      rw [hW2]
      clear hW2
      obtain ⟨g2, hg2⟩ : ∃ g, w2.heap.size = g := ⟨_, rfl⟩
      rw [hg2] at hp2 ⊢
      have HP2 := Lib.hid hp2
      have HB3 := Lib.hid (HB2.out.trans (hb2.mono HB2.out.size))
      clear hb2 hp2 hg2
      go_upto_region 7 with (go_at_call 15; refine (K2.out W2).mono ?_; rintro e w3 ⟨rfl, hb3⟩; have HB4 := Lib.hid (HB3.out.trans (hb3.mono HB3.out.size)); have HP3 := Lib.hid (HP2.out.below hb3); clear hb3)
      obtain ⟨W3, hW3⟩ : ∃ W3, w3.alloc (.cells #[.int .u32 H, .int .i64 Q, .int .i64 I, .bool B] 26) = W3 := ⟨_, rfl⟩
      have hb3 : Below w3.heap.size w3 W3 := by rw [← hW3]; exact (Below.refl _ _).alloc (Nat.le_refl _) _
      have hp3 : PlAt W3 w3.heap.size (H, Q, I, B) := by rw [← hW3]; exact new_cellsN _ _ _
      rw [hW3]
      clear hW3
      have hq3 := HP3.out.below hb3
      have HB5 := Lib.hid (HB4.out.trans (hb3.mono HB4.out.size))
      obtain ⟨d0, d1, d2, d3⟩ := hp3.cells.1
      obtain ⟨e0, e1, e2, e3⟩ := hq3.cells.1
      clear hb3 hp3 hq3
      have KX : Hid (Calls Tryd.prog 10 #[.agg #[.int .u32 H, .int .i64 Q, .int .i64 I, .bool B]] W3 fun e w' => e = .returned (.string s) ∧ Below W3.heap.size W3 w') := Lib.hid (by
        have := text_calls W3 (HENV.out.below HB5.out) H Q I B HU.out
        rwa [HT.out] at this)
      go_wp2_with (go_at_call 10; refine KX.out.mono ?_; rintro e w4 ⟨rfl, hb4⟩; have HB6 := Lib.hid (HB5.out.trans (hb4.mono HB5.out.size)); clear hb4)
      go_ret
      exact ⟨rfl, HB6.out⟩
    · dsimp only [placeV, zP] at K1 K2
      go_upto_region 6 with (go_at_call 14; refine K1.out.mono ?_; rintro e w2 ⟨rfl, hb2⟩; have HB2 := Lib.hid (HB1.out.trans (hb2.mono HB1.out.size)); clear hb2)
      obtain ⟨W2, hW2⟩ : ∃ W2, w2.alloc (.cells #[.int .u32 0, .int .i64 0, .int .i64 0, .bool false] 26) = W2 := ⟨_, rfl⟩
      have hb2 : Below w2.heap.size w2 W2 := by rw [← hW2]; exact (Below.refl _ _).alloc (Nat.le_refl _) _
      have hp2 : PlAt W2 w2.heap.size zP := by rw [← hW2]; exact new_cellsN _ _ _
      rw [hW2]
      clear hW2
      obtain ⟨g2, hg2⟩ : ∃ g, w2.heap.size = g := ⟨_, rfl⟩
      rw [hg2] at hp2 ⊢
      have HP2 := Lib.hid hp2
      have HB3 := Lib.hid (HB2.out.trans (hb2.mono HB2.out.size))
      clear hb2 hp2 hg2
      go_upto_region 7 with (go_at_call 15; refine (K2.out W2).mono ?_; rintro e w3 ⟨rfl, hb3⟩; have HB4 := Lib.hid (HB3.out.trans (hb3.mono HB3.out.size)); have HP3 := Lib.hid (HP2.out.below hb3); clear hb3)
      obtain ⟨W3, hW3⟩ : ∃ W3, w3.alloc (.cells #[.int .u32 0, .int .i64 0, .int .i64 0, .bool false] 26) = W3 := ⟨_, rfl⟩
      have hb3 : Below w3.heap.size w3 W3 := by rw [← hW3]; exact (Below.refl _ _).alloc (Nat.le_refl _) _
      have hp3 : PlAt W3 w3.heap.size zP := by rw [← hW3]; exact new_cellsN _ _ _
      rw [hW3]
      clear hW3
      have hq3 := HP3.out.below hb3
      have HB5 := Lib.hid (HB4.out.trans (hb3.mono HB4.out.size))
      obtain ⟨d0, d1, d2, d3⟩ := hp3.cells.1
      obtain ⟨e0, e1, e2, e3⟩ := hq3.cells.1
      clear hb3 hp3 hq3
      go_wp2
      go_ret
      exact ⟨rfl, HB5.out⟩
end Go.Proofs.YtjbhcaifmgbpgaaDoor.Ad
