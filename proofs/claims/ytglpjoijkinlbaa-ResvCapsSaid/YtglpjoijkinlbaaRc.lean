/-
  resv: a table, where it lies; the time goes on. Conditions: as the theorems state them.
-/
import Derived.Test.YtglpjoijkinlbaaRb
import Derived.Test.YtglpjoijkinlbaaWMore
import Derived.Test.YtglpjoijkinlbaaWLast
namespace Go.Proofs.Ytglpjoijkinlbaa.Rv
open Go.RowKit Go.Maps Go.Shelf Go.Proofs.YtglpjoijkinlbaaW.PrintWords Go.Proofs.YtglpjoijkinlbaaW.PrintLast Go.Proofs.YtglpjoijkinlbaaW.PrintMore
set_option linter.unusedVariables false
set_option linter.unusedSimpArgs false
attribute [local go_sem] Oper.semAt_some max2_int min2_int max_two min_two
abbrev LimV := Int × Int × Int × Int × Int × Int
def tabC (l : LimV) (b : Nat) (now : Int) : Array Value := #[.int .i64 l.1, .int .i64 l.2.1, .int .i64 l.2.2.1, .int .i64 l.2.2.2.1, .int .i64 l.2.2.2.2.1, .int .i64 l.2.2.2.2.2, .map (some b), .int .i64 now]
def TabAt (W : World) (g b n : Nat) (l : LimV) (L : List HeldP) (now : Int) : Prop := W.heap[g]? = some (.cells (tabC l b now) 51 (0, 0)) ∧ W.ownsMap Try.prog 3 heldR b n (encL L)
def Touch (g b : Nat) (W W' : World) : Prop := W'.os = W.os ∧ W'.tape = W.tape ∧ W'.output = W.output ∧ W.heap.size ≤ W'.heap.size ∧ ∀ i, i < W.heap.size → i ≠ g → i ≠ b → W'.heap[i]? = W.heap[i]?
theorem Touch.refl (g b : Nat) (W : World) : Touch g b W W := ⟨rfl, rfl, rfl, Nat.le_refl _, fun _ _ _ _ => rfl⟩
theorem Touch.trans {g b : Nat} {W X Y : World} (h : Touch g b W X) (k : Touch g b X Y) : Touch g b W Y :=
  ⟨k.1.trans h.1, k.2.1.trans h.2.1, k.2.2.1.trans h.2.2.1, Nat.le_trans h.2.2.2.1 k.2.2.2.1, fun i hi h1 h2 => (k.2.2.2.2 i (Nat.lt_of_lt_of_le hi h.2.2.2.1) h1 h2).trans (h.2.2.2.2 i hi h1 h2)⟩
theorem Touch.grown {g b : Nat} {W X : World} (h : W.grownBy X none) : Touch g b W X := ⟨h.os, h.tape, h.output, h.size, fun i hi _ _ => h.block i hi (by simp)⟩
theorem Touch.grownB {g b : Nat} {W X : World} (h : W.grownBy X (some b)) : Touch g b W X := ⟨h.os, h.tape, h.output, h.size, fun i hi _ h2 => h.block i hi (by simpa using h2)⟩
theorem Touch.below {g b B : Nat} {w W X : World} (hb : Below B w W) (h : Touch g b W X) (hg : B ≤ g) (hbb : B ≤ b) (hB : B ≤ W.heap.size) : Below B w X :=
  ⟨h.1.trans hb.os, h.2.1.trans hb.tape, h.2.2.1.trans hb.output, Nat.le_trans hb.size h.2.2.2.1, fun i hi => (h.2.2.2.2 i (by omega) (by omega) (by omega)).trans (hb.block i hi)⟩
theorem TabAt.ne {W : World} {g b n : Nat} {l : LimV} {L : List HeldP} {now : Int} (h : TabAt W g b n l L now) : g ≠ b := by
  obtain ⟨h1, es, clock, h2, _⟩ := h
  intro e
  rw [e, h2] at h1
  cases h1
theorem TabAt.lt {W : World} {g b n : Nat} {l : LimV} {L : List HeldP} {now : Int} (h : TabAt W g b n l L now) : g < W.heap.size ∧ b < W.heap.size := ⟨(Array.getElem?_eq_some_iff.1 h.1).1, h.2.lt⟩
theorem TabAt.step {W X : World} {g b n : Nat} {l : LimV} {L : List HeldP} {now : Int} (h : TabAt W g b n l L now) (hg : W.grownBy X none) : TabAt X g b n l L now := ⟨(hg.block g h.lt.1 (by simp)).trans h.1, h.2.kept hg (by simp)⟩
theorem tab_cells {V : World} {g b : Nat} {l : LimV} {now : Int} (h : V.heap[g]? = some (.cells (tabC l b now) 51 (0, 0))) : V.cell? ⟨g, 0, none⟩ = some (.int .i64 l.1) ∧ V.cell? ⟨g, 1, none⟩ = some (.int .i64 l.2.1) ∧ V.cell? ⟨g, 3, none⟩ = some (.int .i64 l.2.2.2.1) ∧ V.cell? ⟨g, 6, none⟩ = some (.map (some b)) ∧ V.cell? ⟨g, 7, none⟩ = some (.int .i64 now) :=
  ⟨cell_cellsN h 0 (by simp [tabC]), cell_cellsN h 1 (by simp [tabC]), cell_cellsN h 3 (by simp [tabC]), cell_cellsN h 6 (by simp [tabC]), cell_cellsN h 7 (by simp [tabC])⟩
theorem frozen_cellsN {w : World} {g t : Nat} {cs : Array Value} (h : w.heap[g]? = some (.cells cs t (0, 0))) (j : Nat) : w.frozen? ⟨g, j, none⟩ = false := by unfold World.frozen?; rw [h]; simp
theorem set_cellsN {w : World} {g t : Nat} {cs cs' : Array Value} (j : Nat) {z : Value} (h : w.heap[g]? = some (.cells cs t (0, 0))) (hc : cs.setIfInBounds j z = cs') : (w.setCell ⟨g, j, none⟩ z).heap[g]? = some (.cells cs' t (0, 0)) := by
  subst hc
  unfold World.setCell
  show (w.heap.modify g _)[g]? = _
  rw [Array.getElem?_modify, if_pos rfl, h]
  rfl
def capT (t : Int) : Int := if 1099511627776 < t then 1099511627776 else t
def onT (now t : Int) : Int := if now < capT t then capT t else now
set_option maxRecDepth 100000 in
set_option maxHeartbeats 4000000 in
theorem on_calls (W : World) (g b n : Nat) (l : LimV) (L : List HeldP) (now t : Int) (h : TabAt W g b n l L now) :
    Calls Try.prog 13 #[.pointer (some ⟨g, 0, none⟩), .int .i64 t] W fun e w' => e = .returned (.tuple #[]) ∧ TabAt w' g b n l (overL L (onT now t)) (onT now t) ∧ Touch g b W w' := by
  have hne := h.ne
  have hlt := h.lt
  obtain ⟨X, hX⟩ : ∃ X, W.alloc (.cells #[.pointer (some ⟨g, 0, none⟩)] 26) = X := ⟨_, rfl⟩
  have hgX : W.grownBy X none := by rw [← hX]; exact World.grownBy_alloc W _ none
  have hT := h.step hgX
  obtain ⟨c0, c1, c3, c6, c7⟩ := tab_cells hT.1
  have hfz := frozen_cellsN hT.1 7
  have hbx : X.cell? ⟨W.heap.size, 0, none⟩ = some (.pointer (some ⟨g, 0, none⟩)) := by rw [← hX]; exact cell_cellsN (new_cellsN W _ _) 0 (by simp)
  obtain ⟨m, hm⟩ : ∃ m, (if 1099511627776 < t then 1099511627776 else t) = m := ⟨_, rfl⟩
  obtain ⟨T, hTn⟩ : ∃ T, (if now < m then m else now) = T := ⟨_, rfl⟩
  have hon : onT now t = T := by unfold onT capT; rw [hm]; exact hTn
  rw [hon]
  have HT := Lib.hid hT
  have HG := Lib.hid hgX
  go_enter Try.func13, Try.ntmps13
  go_upto_region 1 with fail
  clear hX
  go_region
  go_upto_region 2 with fail
  obtain ⟨Y, hY⟩ : ∃ Y, (X.setCell ⟨g, 7, none⟩ (.int .i64 T)).drew = Y := ⟨_, rfl⟩
  have hYg : Y.heap[g]? = some (.cells (tabC l b T) 51 (0, 0)) := by rw [← hY]; exact set_cellsN 7 HT.out.1 (by simp [tabC])
  have hYm : Y.ownsMap Try.prog 3 heldR b n (encL L) := by rw [← hY]; exact (HT.out.2.setCell (Ne.symm hne) _).drew
  have hYo : ∀ i, i ≠ g → Y.heap[i]? = X.heap[i]? := by
    intro i hi
    rw [← hY]
    show (X.heap.modify g _)[i]? = _
    rw [Array.getElem?_modify, if_neg (fun e => hi e.symm)]
  have hYs : X.heap.size ≤ Y.heap.size := by rw [← hY]; show _ ≤ (X.heap.modify g _).size; rw [Array.size_modify]; exact Nat.le_refl _
  have hYos : Y.os = X.os ∧ Y.tape = X.tape ∧ Y.output = X.output := by rw [← hY]; exact ⟨rfl, rfl, rfl⟩
  have hYb : Y.cell? ⟨W.heap.size, 0, none⟩ = some (.pointer (some ⟨g, 0, none⟩)) := by
    have e := hYo W.heap.size (by omega)
    unfold World.cell? at hbx ⊢
    rw [e]
    exact hbx
  have hTo : Touch g b W Y := (Touch.grown HG.out).trans ⟨hYos.1, hYos.2.1, hYos.2.2, hYs, fun i _ h1 _ => hYo i h1⟩
  have KD := Lib.hid (delf_calls L T g W.heap.size b n Y hYm hYb (tab_cells hYg).2.2.2.2 (by omega) hne)
  have HTo := Lib.hid hTo
  have HYg := Lib.hid hYg
  have HYl := Lib.hid (show g < Y.heap.size from (Array.getElem?_eq_some_iff.1 hYg).1)
  obtain ⟨d0, d1, d3, d6, d7⟩ := tab_cells hYg
  rw [hY]
  clear hY hYg hYm hYo hYs hYos hTo c0 c1 c3 c6 c7 hfz hT hgX hbx hm hTn hon
  go_wp2_with (go_at_call 20; refine KD.out.mono ?_; rintro e w2 ⟨rfl, h2, hg2⟩)
  go_end0
  exact ⟨rfl, ⟨(hg2.block g HYl.out (by simpa using hne)).trans HYg.out, h2⟩, HTo.out.trans (Touch.grownB hg2)⟩
end Go.Proofs.Ytglpjoijkinlbaa.Rv
