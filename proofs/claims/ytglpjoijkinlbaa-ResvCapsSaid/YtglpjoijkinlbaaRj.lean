/-
  resv: (*Table).All: what it hands back. Conditions: as the theorem states them.
-/
import Derived.Test.YtglpjoijkinlbaaRi
namespace Go.Proofs.Ytglpjoijkinlbaa.Rv
open Go.RowKit Go.Maps Go.Shelf Go.Sort Go.Proofs.YtglpjoijkinlbaaW.PrintWords Go.Proofs.YtglpjoijkinlbaaW.PrintLast Go.Proofs.YtglpjoijkinlbaaW.PrintMore
set_option linter.unusedVariables false
set_option linter.unusedSimpArgs false
attribute [local go_sem] Oper.semAt_some
/-- What an iterator over all holds: its boxes p1 (the peers' row) and p2 (the clone b2). -/
def AllAt (base : Nat) (V : World) (p1 p2 b2 n : Nat) (L : List HeldP) : Prop :=
  ∃ A m c, V.cell? ⟨p1, 0, none⟩ = some (.slice A m c) ∧ m = L.length ∧ V.ownsRow base 3 1 (.slice A m c) L.length ((L.map (·.1)).map encZ) ∧ V.cell? ⟨p2, 0, none⟩ = some (.map (some b2)) ∧ V.ownsMap Try.prog 3 heldR b2 n (encL L) ∧ base ≤ p1 ∧ base ≤ p2 ∧ base ≤ b2
theorem tab_kept {W X : World} {g b n : Nat} {l : LimV} {L : List HeldP} {now : Int} (h : TabAt W g b n l L now) (hb : Below W.heap.size W X) : TabAt X g b n l L now :=
  h.step ⟨hb.os, hb.tape, hb.output, hb.size, fun i hi _ => hb.block i hi⟩
theorem Touch.ofBelow {g b : Nat} {W X : World} (hb : Below W.heap.size W X) : Touch g b W X := ⟨hb.os, hb.tape, hb.output, hb.size, fun i hi _ _ => hb.block i hi⟩
set_option maxRecDepth 100000 in
set_option maxHeartbeats 4000000 in
theorem all_calls (W : World) (g b n : Nat) (l : LimV) (L : List HeldP) (now t : Int) (h : TabAt W g b n l L now) (hr : Ris L) (hl : L.length ≤ 1000000) :
    Calls Try.prog 9 #[.pointer (some ⟨g, 0, none⟩), .int .i64 t] W fun e w' => ∃ p1 p2 b2, e = .returned (.func (.func 17) #[] #[.pointer (some ⟨p1, 0, none⟩), .pointer (some ⟨p2, 0, none⟩)]) ∧ AllAt W.heap.size w' p1 p2 b2 n (overL L (onT now t)) ∧ TabAt w' g b n l (overL L (onT now t)) (onT now t) ∧ Touch g b W w' := by
  obtain ⟨T, hT⟩ : ∃ T, onT now t = T := ⟨_, rfl⟩
  have K := on_calls W g b n l L now t h
  rw [hT] at K ⊢
  obtain ⟨L', hL'⟩ : ∃ L', overL L T = L' := ⟨_, rfl⟩
  have hrs : Ris L' := by rw [← hL']; exact ris_filter hr _
  have hln : L'.length ≤ 1000000 := by rw [← hL']; have := List.length_filter_le (fun x : HeldP => !decide (x.2.2 ≤ T)) L; unfold overL; omega
  rw [hL'] at K ⊢
  have K := Lib.hid K
  have HRS := Lib.hid hrs
  have HLN := Lib.hid hln
  clear h hT hL' hr hl hrs hln
  go_enter Try.func9, Try.ntmps9
  go_upto_region 2 with (go_at_call 13; refine K.out.mono ?_; rintro e w1 ⟨rfl, h1, ht1⟩)
  obtain ⟨c0, c1, c3, c6, c7⟩ := tab_cells h1.1
  have KK := Lib.hid (keysf_calls w1 (some b))
  have KS := Lib.hid (sorted_calls w1 b n L' h1.2 HRS.out HLN.out)
  go_upto_region 3 with (first
    | (go_at_call 15; refine KK.out.mono ?_; rintro e w2 ⟨rfl, rfl⟩)
    | (go_at_call 14; refine KS.out.mono ?_; rintro e w3 ⟨A, m, c, rfl, hm, hrow, hb3⟩; have HM := Lib.hid hm; clear hm))
  obtain ⟨X, hX⟩ : ∃ X, w3.alloc (.cells #[.slice A m c] 53) = X := ⟨_, rfl⟩
  have hbX : Below w3.heap.size w3 X := by rw [← hX]; exact (Below.refl _ w3).alloc (Nat.le_refl _) _
  have hx1 : X.cell? ⟨w3.heap.size, 0, none⟩ = some (.slice A m c) := by rw [← hX]; exact cell_cellsN (new_cellsN w3 _ _) 0 (by simp)
  have hb1X : Below w1.heap.size w1 X := hb3.trans (hbX.mono hb3.size)
  have hT2 := tab_kept h1 hb1X
  have hrow2 := hrow.kept (row := none) (w' := X) ⟨hbX.os, hbX.tape, hbX.output, hbX.size, fun i hi _ => hbX.block i hi⟩ (Classical.em _)
  have hlt3 : w3.heap.size < X.heap.size := by rw [← hX]; simp
  rw [hX]
  clear hX c0 c1 c3 c6 c7
  obtain ⟨c0, c1, c3, c6, c7⟩ := tab_cells hT2.1
  have KC := Lib.hid (clone_calls X b n (encL L') hT2.2)
  have HX1 := Lib.hid hx1
  have HR2 := Lib.hid hrow2
  have HB1X := Lib.hid hb1X
  have HT1 := Lib.hid ht1
  have HTT := Lib.hid hT2
  have HS3 := Lib.hid (show w1.heap.size ≤ w3.heap.size from hb3.size)
  have HL3 := Lib.hid hlt3
  have HW1 := Lib.hid ht1.2.2.2.1
  clear hx1 hrow hrow2 hbX hb1X ht1 hT2 h1 hb3 hlt3
  go_upto_region 4 with (go_at_call 16; refine KC.out.mono ?_; rintro e w5 ⟨rfl, h5, h6, hb5⟩)
  obtain ⟨Y, hY⟩ : ∃ Y, w5.alloc (.cells #[.map (some X.heap.size)] 49) = Y := ⟨_, rfl⟩
  have hbY : Below w5.heap.size w5 Y := by rw [← hY]; exact (Below.refl _ w5).alloc (Nat.le_refl _) _
  have hbXY : Below X.heap.size X Y := hb5.trans (hbY.mono hb5.size)
  have hy1 : Y.cell? ⟨w5.heap.size, 0, none⟩ = some (.map (some X.heap.size)) := by rw [← hY]; exact cell_cellsN (new_cellsN w5 _ _) 0 (by simp)
  have hy2 : Y.ownsMap Try.prog 3 heldR X.heap.size n (encL L') := by rw [← hY]; exact h5.alloc _
  rw [hY]
  clear hY c0 c1 c3 c6 c7
  go_wp2
  go_ret
  have hs5 := hb5.size
  have hW1 := HW1.out
  have hS3 := HS3.out
  have hL3 := HL3.out
  refine ⟨_, _, _, rfl, ⟨A, m, c, (hbXY.cell hL3).trans HX1.out, HM.out, ?_, hy1, hy2, by omega, by omega, by omega⟩, tab_kept HTT.out hbXY, HT1.out.trans (Touch.ofBelow (HB1X.out.trans (hbXY.mono HB1X.out.size)))⟩
  exact ownsRow_base_a (HR2.out.kept (row := none) (w' := Y) ⟨hbXY.os, hbXY.tape, hbXY.output, hbXY.size, fun i hi _ => hbXY.block i hi⟩ (Classical.em _)) hW1
end Go.Proofs.Ytglpjoijkinlbaa.Rv
