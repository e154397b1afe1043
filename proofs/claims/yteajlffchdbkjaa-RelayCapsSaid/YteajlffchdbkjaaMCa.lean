/-
  A relay's circuits, plain: rows of (number, ends, until, bytes each way), and how they lie in memory. No condition.
  circ: is a circuit's time over? (on$1, where it isn't; place$1; Open$1.) Conditions: as the theorems state them.
  circ: on$1 where the circuit's time is over: it is put at the end of the table's 'gone'. Conditions: as the theorem states.
  circ: Open$1 (does a circuit lie between a and b?). Conditions: as the theorem states.
  circ: the closures of Open and place as the shelf's PredBelow. Conditions: as the theorems state.
  Circuits: the texts behind which the library's contracts at circuits stand (laid in the text Shelf). No condition.
  slices.IndexFunc and slices.ContainsFunc at circuits, with the closures of place and Open. Conditions: as the theorems state.
  slices.Clone at circuits. Conditions: as the theorem states.
  circ: the state in which on$1 runs; on$1 whatever the circuit; slices.IndexFunc with it. Conditions: as the theorems state them.
  circ: rows of circuits that are written over in place; plain. Conditions: as the theorems state them.
  circ: the rows that slices.DeleteFunc leaves as it goes; plain. Conditions: as the theorem states.
  circ: slices.DeleteFunc with on$1: those whose time came go to 'gone', the others stand closed up. Conditions: as the theorem states.
  circ: slices.DeleteFunc with on$1, whatever the row; slices.Delete of one circuit. Conditions: as the theorems state them.
-/
import Derived.Test.YteajlffchdbkjaaMRc
import Derived.OwnWalkIn
import Derived.Deep.QuietTactic
import Derived.BigQuiet
import Derived.Shelf.SlicesQ.IndexFunc
import Derived.Test.YteajlffchdbkjaaShelf
import Derived.Shelf.SlicesE.Clone
import Derived.Ground.SlgnProg
import Derived.Laws.IdiomCopy
namespace Go.Proofs.Yteajlffchdbkjaa.Ci
open Go.RowKit Go.Maps Go.Shelf Go.Proofs.Yteajlffchdbkjaa.Rv Go.Proofs.YteajlffchdbkjaaW.PrintWords Go.Proofs.YteajlffchdbkjaaW.PrintLast Go.Proofs.YteajlffchdbkjaaW.PrintMore
set_option linter.unusedVariables false
set_option linter.unusedSimpArgs false
abbrev CirP := Int × Int × Int × Int × Int × Int
def cirC (c : CirP) : Array Value := #[.int .i64 c.1, .int .i64 c.2.1, .int .i64 c.2.2.1, .int .i64 c.2.2.2.1, .int .i64 c.2.2.2.2.1, .int .i64 c.2.2.2.2.2]
theorem zeroC (w : World) : (zeroValue 50).run Try.prog w = .ok (.agg (cirC (0, 0, 0, 0, 0, 0))) w := by kernel_rfl
theorem infoC : (Try.prog.info? 50).map (fun i => (i.zero, i.size, i.bytes)) = some (some (.agg (cirC (0, 0, 0, 0, 0, 0))), 6, 48) := by kernel_rfl
def flatC (L : List CirP) : List Value := L.flatMap (fun x => (cirC x).toList)
theorem flatC_nil : flatC [] = [] := rfl
theorem flatC_app (L M : List CirP) : flatC (L ++ M) = flatC L ++ flatC M := by simp [flatC]
theorem flatC_snoc (L : List CirP) (x : CirP) : flatC (L ++ [x]) = flatC L ++ (cirC x).toList := by simp [flatC]
theorem flatC_len (L : List CirP) : (flatC L).length = L.length * 6 := by
  induction L with
  | nil => rfl
  | cons x r ih => unfold flatC at ih ⊢; rw [List.flatMap_cons, List.length_append, ih, List.length_cons]; simp [cirC]; omega
theorem flatC_at : ∀ (L : List CirP) (i : Nat) (hi : i < L.length) (j : Nat) (hj : j < 6), (flatC L)[i * 6 + j]? = (cirC L[i])[j]?
  | [], i, hi, _, _ => absurd hi (Nat.not_lt_zero i)
  | x :: r, 0, _, j, hj => by
    show ((cirC x).toList ++ flatC r)[0 * 6 + j]? = _
    rw [List.getElem?_append_left (by simp [cirC]; omega), Nat.zero_mul, Nat.zero_add, Array.getElem?_toList]
    rfl
  | x :: r, i + 1, hi, j, hj => by
    have h := flatC_at r i (by simpa using hi) j hj
    show ((cirC x).toList ++ flatC r)[(i + 1) * 6 + j]? = _
    have hl : (cirC x).toList.length = 6 := rfl
    rw [List.getElem?_append_right (by omega), show (i + 1) * 6 + j - (cirC x).toList.length = i * 6 + j by omega, h, List.getElem_cons_succ]
/-- The cells of a circuit of a row that is owned. -/
theorem rowC_cells {V : World} {base : Nat} {v : Value} {L : List CirP} (h : V.ownsRow base 50 6 v L.length (flatC L)) : ∃ A c, v = .slice A L.length c ∧ (L.length = 0 ∨ ∃ gr, A = some ⟨gr, 0, none⟩ ∧ base ≤ gr ∧ gr < V.heap.size ∧ L.length ≤ c ∧ ∀ X : World, X.heap[gr]? = V.heap[gr]? → ∀ i (hi : i < L.length) (j : Nat) (hj : j < 6), X.cell? ⟨gr, i * 6 + j, none⟩ = (cirC L[i])[j]?) := by
  rcases h.2 with ⟨h1, h2⟩ | ⟨gr, cap, cur, h1, h2, h3, h4, h5, h6, h7⟩
  · exact ⟨none, 0, by rw [h1, h2], .inl h2⟩
  · refine ⟨_, _, h1, .inr ⟨gr, rfl, h2, (Array.getElem?_eq_some_iff.1 h3).1, h4, fun X hX i hi j hj => ?_⟩⟩
    rw [← flatC_at L i hi j hj]
    have hlt : i * 6 + j < L.length * 6 := by omega
    rw [← h7, List.getElem?_take_of_lt hlt, Array.getElem?_toList]
    unfold World.cell?
    dsimp only
    rw [hX, h3]
    have : i * 6 + j < cur.size := by have := Nat.mul_le_mul_right 6 h4; omega
    simp [this]
/-! ### what the calls do, plain -/
def liveC (L : List CirP) (now : Int) : List CirP := L.filter (fun c => decide (c.2.2.2.1 > now))
def goneC (L : List CirP) (now : Int) : List CirP := L.filter (fun c => !decide (c.2.2.2.1 > now))
def isBetween (a b : Int) (c : CirP) : Bool := (decide (c.2.1 = a) && decide (c.2.2.1 = b)) || (decide (c.2.1 = b) && decide (c.2.2.1 = a))
/-- Open, where the call may be: (number, code, rows, the last number). -/
def openG (circuits duration : Int) (L : List CirP) (last now a b until_ : Int) : Int × Int × List CirP × Int :=
  if L.any (isBetween a b) = true then (0, 6, L, last)
  else if circuits ≤ (L.length : Int) then (0, 10, L, last)
  else (last + 1, 0, L ++ [(last + 1, a, b, (if now + duration < until_ then now + duration else until_), 0, 0)], last + 1)
end Go.Proofs.Yteajlffchdbkjaa.Ci
namespace Go.Proofs.Yteajlffchdbkjaa.Ci
open Go.RowKit Go.Maps Go.Shelf Go.Proofs.Yteajlffchdbkjaa.Rv Go.Proofs.YteajlffchdbkjaaW.PrintWords Go.Proofs.YteajlffchdbkjaaW.PrintLast Go.Proofs.YteajlffchdbkjaaW.PrintMore
set_option linter.unusedVariables false
set_option linter.unusedSimpArgs false
attribute [local go_sem] Oper.semAt_some max2_int min2_int max_two min_two
theorem cir_cells {V : World} {b : Nat} {c : CirP} (h : V.heap[b]? = some (.cells (cirC c) 50 (0, 0))) : V.cell? ⟨b, 0, none⟩ = some (.int .i64 c.1) ∧ V.cell? ⟨b, 1, none⟩ = some (.int .i64 c.2.1) ∧ V.cell? ⟨b, 2, none⟩ = some (.int .i64 c.2.2.1) ∧ V.cell? ⟨b, 3, none⟩ = some (.int .i64 c.2.2.2.1) ∧ V.cell? ⟨b, 4, none⟩ = some (.int .i64 c.2.2.2.2.1) ∧ V.cell? ⟨b, 5, none⟩ = some (.int .i64 c.2.2.2.2.2) :=
  ⟨cell_cellsN h 0 (by simp [cirC]), cell_cellsN h 1 (by simp [cirC]), cell_cellsN h 2 (by simp [cirC]), cell_cellsN h 3 (by simp [cirC]), cell_cellsN h 4 (by simp [cirC]), cell_cellsN h 5 (by simp [cirC])⟩
theorem place1_calls (W : World) (bn : Nat) (no : Int) (c : CirP) (hb : W.cell? ⟨bn, 0, none⟩ = some (.int .i64 no)) :
    Calls Try.prog 78 #[.agg (cirC c), .pointer (some ⟨bn, 0, none⟩)] W fun e w' => e = .returned (.bool (c.1 == no)) ∧ Below W.heap.size W w' := by
  obtain ⟨X, hX⟩ : ∃ X, W.alloc (.cells (cirC c) 50) = X := ⟨_, rfl⟩
  have hbX : Below W.heap.size W X := by rw [← hX]; exact (Below.refl _ W).alloc (Nat.le_refl _) _
  have hc := new_cellsN W 50 (cirC c)
  rw [hX] at hc
  obtain ⟨d0, d1, d2, d3, d4, d5⟩ := cir_cells hc
  have e1 : X.cell? ⟨bn, 0, none⟩ = some (.int .i64 no) := (hbX.cell (World.block_lt_of_cell? _ _ hb)).trans hb
  have HB := Lib.hid hbX
  obtain ⟨r, hr⟩ : ∃ r, (c.1 == no) = r := ⟨_, rfl⟩
  rw [hr]
  clear hbX hc
  unfold cirC at hX ⊢
  go_enter Try.func78, Try.ntmps78
  go_wp2
  go_ret
  exact ⟨by rw [← hr]; rfl, HB.out⟩
theorem on1_live (W : World) (tb g : Nat) (now : Int) (c : CirP) (hb : W.cell? ⟨tb, 0, none⟩ = some (.pointer (some ⟨g, 0, none⟩))) (hn : W.cell? ⟨g, 9, none⟩ = some (.int .i64 now)) (hc : c.2.2.2.1 > now) :
    Calls Try.prog 76 #[.agg (cirC c), .pointer (some ⟨tb, 0, none⟩)] W fun e w' => e = .returned (.bool false) ∧ Below W.heap.size W w' := by
  obtain ⟨X, hX⟩ : ∃ X, W.alloc (.cells (cirC c) 50) = X := ⟨_, rfl⟩
  have hbX : Below W.heap.size W X := by rw [← hX]; exact (Below.refl _ W).alloc (Nat.le_refl _) _
  have hcl := new_cellsN W 50 (cirC c)
  rw [hX] at hcl
  obtain ⟨d0, d1, d2, d3, d4, d5⟩ := cir_cells hcl
  have e1 : X.cell? ⟨tb, 0, none⟩ = some (.pointer (some ⟨g, 0, none⟩)) := (hbX.cell (World.block_lt_of_cell? _ _ hb)).trans hb
  have e2 : X.cell? ⟨g, 9, none⟩ = some (.int .i64 now) := (hbX.cell (World.block_lt_of_cell? _ _ hn)).trans hn
  have HB := Lib.hid hbX
  have b1 : decide (c.2.2.2.1 > now) = true := decide_eq_true hc
  clear hbX hcl hc
  unfold cirC at hX ⊢
  go_enter Try.func76, Try.ntmps76
  go_upto_region 1 with fail
  go_quiet (fail)
  go_wp2
  go_ret
  exact ⟨rfl, HB.out.trans ⟨rfl, rfl, rfl, Nat.le_refl _, fun _ _ => rfl⟩⟩
end Go.Proofs.Yteajlffchdbkjaa.Ci
namespace Go.Proofs.Yteajlffchdbkjaa.Ci
open Go.RowKit Go.Maps Go.Shelf Go.Proofs.Yteajlffchdbkjaa.Rv Go.Proofs.YteajlffchdbkjaaW.PrintWords Go.Proofs.YteajlffchdbkjaaW.PrintLast Go.Proofs.YteajlffchdbkjaaW.PrintMore
set_option linter.unusedVariables false
set_option linter.unusedSimpArgs false
attribute [local go_sem] Oper.semAt_some max2_int min2_int max_two min_two
theorem gone_mk {W Y w5 : World} {base g : Nat} {gc : Array Value} {v v5 : Value} {G : List CirP} {c : CirP} (hgl : g < W.heap.size) (hbase : base ≤ g) (hW : Below W.heap.size W Y) (hg : Y.heap[g]? = some (.cells gc 103 (0, 0))) (hR : Y.ownsRow base 50 6 v G.length (flatC G))
    (ho : w5.ownsRow base 50 6 v5 (G.length + 1) (flatC G ++ (cirC c).toList)) (hb : Below base W w5) (hgr : Y.grownBy w5 v.ownBlock) (hat : v5.ownBlock = v.ownBlock ∨ ∃ b, v5.ownBlock = some b ∧ Y.heap.size ≤ b) :
    ∃ v1, (v1.ownBlock = v.ownBlock ∨ ∃ b, v1.ownBlock = some b ∧ W.heap.size ≤ b) ∧ (w5.setCell ⟨g, 7, none⟩ v5).heap[g]? = some (.cells (gc.setIfInBounds 7 v1) 103 (0, 0)) ∧ (w5.setCell ⟨g, 7, none⟩ v5).ownsRow base 50 6 v1 (G.length + 1) (flatC (G ++ [c])) ∧ Below base W (w5.setCell ⟨g, 7, none⟩ v5) ∧ ∀ k, k < W.heap.size → k ≠ g → some k ≠ v.ownBlock → (w5.setCell ⟨g, 7, none⟩ v5).heap[k]? = W.heap[k]? := by
  have hne : some g ≠ v.ownBlock := fun e => by
    obtain ⟨cells, hc⟩ := own_typed hR g e.symm
    rw [hg] at hc
    injection hc with hc
    injection hc with _ hc
    exact absurd hc (by decide)
  have hgY : g < Y.heap.size := Nat.lt_of_lt_of_le hgl hW.size
  have h5 := (hgr.block g hgY hne).trans hg
  have hs := (Below.refl g w5).setCell (p := ⟨g, 7, none⟩) (Nat.le_refl g) v5
  have hne5 : v5.ownBlock ≠ some g := fun e => by
    obtain ⟨cells, hc⟩ := own_typed ho g e
    rw [h5] at hc
    injection hc with hc
    injection hc with _ hc
    exact absurd hc (by decide)
  refine ⟨v5, hat.imp id (fun ⟨b, e, hb⟩ => ⟨b, e, Nat.le_trans hW.size hb⟩), set_cellsN 7 h5 rfl, ?_, hb.setCell (p := ⟨g, 7, none⟩) hbase _, fun k hk hkg hkv => ?_⟩
  · rw [flatC_snoc]
    exact ho.kept (row := some g) ⟨hs.os, hs.tape, hs.output, hs.size, fun k _ hk => Below.heap_setCell _ _ _ _ (fun e => hk (by rw [e]))⟩ (.inr hne5)
  · rw [Below.heap_setCell _ _ _ _ hkg]
    exact (hgr.block k (Nat.lt_of_lt_of_le hk hW.size) hkv).trans (hW.block k hk)
set_option maxRecDepth 100000 in
set_option maxHeartbeats 2000000 in
theorem on1_gone (W : World) (base tb g : Nat) (now : Int) (c : CirP) (gc : Array Value) (v : Value) (G : List CirP) (hb : W.heap[tb]? = some (.cells #[.pointer (some ⟨g, 0, none⟩)] 73 (0, 0))) (hg : W.heap[g]? = some (.cells gc 103 (0, 0))) (hgs : gc.size = 10) (hn : gc[9]? = some (.int .i64 now)) (h7 : gc[7]? = some v) (HO : W.ownsRow base 50 6 v G.length (flatC G)) (hbase : base ≤ g) (hl : (G.length + 1) * 48 ≤ 140737488355328) (hc : ¬ c.2.2.2.1 > now) :
    Calls Try.prog 76 #[.agg (cirC c), .pointer (some ⟨tb, 0, none⟩)] W fun e w' => e = .returned (.bool true) ∧ ∃ v1, (v1.ownBlock = v.ownBlock ∨ ∃ b, v1.ownBlock = some b ∧ W.heap.size ≤ b) ∧ w'.heap[g]? = some (.cells (gc.setIfInBounds 7 v1) 103 (0, 0)) ∧ w'.ownsRow base 50 6 v1 (G.length + 1) (flatC (G ++ [c])) ∧ Below base W w' ∧ ∀ k, k < W.heap.size → k ≠ g → some k ≠ v.ownBlock → w'.heap[k]? = W.heap[k]? := by
  have hgl : g < W.heap.size := (Array.getElem?_eq_some_iff.1 hg).1
  obtain ⟨X, hX⟩ : ∃ X, W.alloc (.cells (cirC c) 50) = X := ⟨_, rfl⟩
  have hbX : Below W.heap.size W X := by rw [← hX]; exact (Below.refl _ W).alloc (Nat.le_refl _) _
  have hsX : X.heap.size = W.heap.size + 1 := by rw [← hX]; simp
  have hcl := new_cellsN W 50 (cirC c)
  have HOX := HO.alloc (.cells (cirC c) 50 (0, 0))
  rw [hX] at hcl HOX
  obtain ⟨A, cp, hv, _⟩ := rowC_cells HO
  subst hv
  obtain ⟨d0, d1, d2, d3, d4, d5⟩ := cir_cells hcl
  have hgX := (hbX.block g hgl).trans hg
  have e1 : X.cell? ⟨tb, 0, none⟩ = some (.pointer (some ⟨g, 0, none⟩)) := cell_cellsN ((hbX.block tb (Array.getElem?_eq_some_iff.1 hb).1).trans hb) 0 (Nat.zero_lt_succ 0)
  have htl : tb < W.heap.size := (Array.getElem?_eq_some_iff.1 hb).1
  have htX := (hbX.block tb htl).trans hb
  have e2 : X.cell? ⟨g, 9, none⟩ = some (.int .i64 now) := by rw [cell_cellsN hgX 9 (by omega), ← hn, Array.getElem?_eq_getElem]
  have e3 : X.cell? ⟨g, 7, none⟩ = some (.slice A G.length cp) := by rw [cell_cellsN hgX 7 (by omega), ← h7, Array.getElem?_eq_getElem]
  have HB := Lib.hid hbX
  have HR := Lib.hid HOX
  have b1 : decide (c.2.2.2.1 > now) = false := decide_eq_false hc
  clear hbX hcl hc HOX HO hn h7 hb
  unfold cirC at hX ⊢
  go_enter Try.func76, Try.ntmps76
  go_upto_region 1 with fail
  go_quiet (fail)
  obtain ⟨Y, hY⟩ : ∃ Y, X.drewN nq = Y := ⟨_, rfl⟩
  have qY : ∀ k : Nat, Y.drew.heap[k]? = X.heap[k]? := fun k => by rw [← hY]; rfl
  have sY : Y.drew.heap.size = X.heap.size := by rw [← hY]; rfl
  have f1 : Y.cell? ⟨tb, 0, none⟩ = some (.pointer (some ⟨g, 0, none⟩)) := by rw [← hY]; exact e1
  have f3 : Y.cell? ⟨g, 7, none⟩ = some (.slice A G.length cp) := by rw [← hY]; exact e3
  have f4 : Y.cell? ⟨W.heap.size, 0, none⟩ = some (.int .i64 c.1) := by rw [← hY]; exact d0
  have f5 : Y.cell? ⟨W.heap.size, 1, none⟩ = some (.int .i64 c.2.1) := by rw [← hY]; exact d1
  have f6 : Y.cell? ⟨W.heap.size, 2, none⟩ = some (.int .i64 c.2.2.1) := by rw [← hY]; exact d2
  have f7 : Y.cell? ⟨W.heap.size, 3, none⟩ = some (.int .i64 c.2.2.2.1) := by rw [← hY]; exact d3
  have f8 : Y.cell? ⟨W.heap.size, 4, none⟩ = some (.int .i64 c.2.2.2.2.1) := by rw [← hY]; exact d4
  have f9 : Y.cell? ⟨W.heap.size, 5, none⟩ = some (.int .i64 c.2.2.2.2.2) := by rw [← hY]; exact d5
  have HbY := Lib.hid (show Below W.heap.size W Y.drew from HB.out.trans (by rw [← hY]; exact ⟨rfl, rfl, rfl, Nat.le_refl _, fun _ _ => rfl⟩))
  have HRY := Lib.hid (HR.out.kept (w' := Y.drew) (row := none) ⟨by rw [← hY]; rfl, by rw [← hY]; rfl, by rw [← hY]; rfl, by rw [← hY]; exact Nat.le_refl _, fun k _ _ => qY k⟩ (Classical.em _))
  have sY1 : Y.heap.size = W.heap.size + 1 := by rw [← hsX, ← sY]; rfl
  have HgY := Lib.hid ((qY g).trans hgX)
  have HtY := Lib.hid ((qY tb).trans htX)
  have a1 : (Y.alloc (.cells #[.int .i64 c.1, .int .i64 c.2.1, .int .i64 c.2.2.1, .int .i64 c.2.2.2.1, .int .i64 c.2.2.2.2.1, .int .i64 c.2.2.2.2.2] 50)).drew.cell? ⟨tb, 0, none⟩ = some (.pointer (some ⟨g, 0, none⟩)) := ((((Below.refl Y.heap.size Y).alloc (Nat.le_refl _) _).cell (World.block_lt_of_cell? _ _ f1)).trans f1 : (Y.alloc (.cells #[.int .i64 c.1, .int .i64 c.2.1, .int .i64 c.2.2.1, .int .i64 c.2.2.2.1, .int .i64 c.2.2.2.2.1, .int .i64 c.2.2.2.2.2] 50)).cell? ⟨tb, 0, none⟩ = _)
  have a2 : (Y.alloc (.cells #[.int .i64 c.1, .int .i64 c.2.1, .int .i64 c.2.2.1, .int .i64 c.2.2.2.1, .int .i64 c.2.2.2.2.1, .int .i64 c.2.2.2.2.2] 50)).drew.cell? ⟨g, 7, none⟩ = some (.slice A G.length cp) := ((((Below.refl Y.heap.size Y).alloc (Nat.le_refl _) _).cell (World.block_lt_of_cell? _ _ f3)).trans f3 : (Y.alloc (.cells #[.int .i64 c.1, .int .i64 c.2.1, .int .i64 c.2.2.1, .int .i64 c.2.2.2.1, .int .i64 c.2.2.2.2.1, .int .i64 c.2.2.2.2.2] 50)).cell? ⟨g, 7, none⟩ = _)
  rw [hY]
  clear htX hY e1 e2 e3 d0 d1 d2 d3 d4 d5 hgX hX
  go_upto_region 3 with fail
  go_region_law (refine step_append_cells (w0 := W) base (by rfl) (.tmp 15) (.tmp 17) 45 50 (.agg (cirC (0, 0, 0, 0, 0, 0))) 6 48 rfl Try.underlying45 infoC rfl (by decide) (by decide) (.slice A G.length cp) G.length (flatC G) (cirC c).toList (by simp [Act.eval]) (by simp [Act.eval, sY1]) rfl (by simp [cirC, Value.oneCell']) HRY.out (HbY.out.mono (by omega)) (by omega) hl ?_; intro v5 w5 ho5 hb5 hg5 hat5; obtain ⟨A5, cp5, hv5, _⟩ := rowC_cells (L := G ++ [c]) (show w5.ownsRow base 50 6 v5 (G ++ [c]).length (flatC (G ++ [c])) from by rw [flatC_snoc, List.length_append]; exact ho5); rw [List.length_append, List.length_singleton] at hv5; subst hv5; have h5g := (hg5.block g (by omega) (fun e => by obtain ⟨cells, hc⟩ := own_typed HRY.out g e.symm; rw [HgY.out] at hc; injection hc with hc; injection hc with _ hc; exact absurd hc (by decide))).trans HgY.out; have c5 := cell_cellsN h5g 7 (by omega); have t5 := cell_cellsN ((hg5.block tb (by omega) (fun e => by obtain ⟨cells, hc⟩ := own_typed HRY.out tb e.symm; rw [HtY.out] at hc; injection hc with hc; injection hc with _ hc; exact absurd hc (by decide))).trans HtY.out) 0 (Nat.zero_lt_succ 0); have f5' := frozen_cellsN h5g 7)
  all_goals
    go_wp2
    go_ret
    exact ⟨rfl, gone_mk hgl hbase HbY.out HgY.out HRY.out ho5 hb5 hg5 hat5⟩
end Go.Proofs.Yteajlffchdbkjaa.Ci
namespace Go.Proofs.Yteajlffchdbkjaa.Ci
open Go.RowKit Go.Maps Go.Shelf Go.Proofs.Yteajlffchdbkjaa.Rv Go.Proofs.YteajlffchdbkjaaW.PrintWords Go.Proofs.YteajlffchdbkjaaW.PrintLast Go.Proofs.YteajlffchdbkjaaW.PrintMore
set_option linter.unusedVariables false
set_option linter.unusedSimpArgs false
attribute [local go_sem] Oper.semAt_some max2_int min2_int max_two min_two
theorem open1_calls (W : World) (ba bb : Nat) (a b : Int) (c : CirP) (ha : W.cell? ⟨ba, 0, none⟩ = some (.int .i64 a)) (hb : W.cell? ⟨bb, 0, none⟩ = some (.int .i64 b)) :
    Calls Try.prog 56 #[.agg (cirC c), .pointer (some ⟨ba, 0, none⟩), .pointer (some ⟨bb, 0, none⟩)] W fun e w' => e = .returned (.bool (isBetween a b c)) ∧ Below W.heap.size W w' := by
  obtain ⟨X, hX⟩ : ∃ X, W.alloc (.cells (cirC c) 50) = X := ⟨_, rfl⟩
  have hbX : Below W.heap.size W X := by rw [← hX]; exact (Below.refl _ W).alloc (Nat.le_refl _) _
  have hc := new_cellsN W 50 (cirC c)
  rw [hX] at hc
  obtain ⟨d0, d1, d2, d3, d4, d5⟩ := cir_cells hc
  have e1 : X.cell? ⟨ba, 0, none⟩ = some (.int .i64 a) := (hbX.cell (World.block_lt_of_cell? _ _ ha)).trans ha
  have e2 : X.cell? ⟨bb, 0, none⟩ = some (.int .i64 b) := (hbX.cell (World.block_lt_of_cell? _ _ hb)).trans hb
  have HB := Lib.hid hbX
  clear hbX hc
  unfold cirC at hX ⊢
  go_enter Try.func56, Try.ntmps56
  go_wp2
  all_goals
    go_ret
    refine ⟨?_, HB.out⟩
    refine congrArg (fun q => Ending.returned (Value.bool q)) ?_
    clear hX d0 d1 d2 d3 d4 d5 e1 e2 HB ha hb
    unfold isBetween
    first
      | (simp_all; done)
      | (simp_all [eq_comm]; done)
      | (rw [Bool.eq_iff_iff]; simp_all; done)
      | (rw [Bool.eq_iff_iff]; simp_all; omega)
      | (rw [Bool.eq_iff_iff]; simp_all; grind)
end Go.Proofs.Yteajlffchdbkjaa.Ci
namespace Go.Proofs.Yteajlffchdbkjaa.Ci
open Go.RowKit Go.Maps Go.Shelf Go.Proofs.Yteajlffchdbkjaa.Rv Go.Proofs.YteajlffchdbkjaaW.PrintWords Go.Proofs.YteajlffchdbkjaaW.PrintLast Go.Proofs.YteajlffchdbkjaaW.PrintMore
set_option linter.unusedVariables false
theorem place_pred (W : World) (bn : Nat) (no : Int) (hb : W.cell? ⟨bn, 0, none⟩ = some (.int .i64 no)) :
    PredBelow Try.prog 78 #[.pointer (some ⟨bn, 0, none⟩)] (fun c => .agg (cirC c)) (fun c => c.1 == no) W := fun V c h =>
  (place1_calls V bn no c ((h.cell (World.block_lt_of_cell? _ _ hb)).trans hb)).mono fun _ _ ⟨he, hB⟩ => ⟨he, h.trans (hB.mono h.size)⟩
theorem open_pred (W : World) (ba bb : Nat) (a b : Int) (ha : W.cell? ⟨ba, 0, none⟩ = some (.int .i64 a)) (hb : W.cell? ⟨bb, 0, none⟩ = some (.int .i64 b)) :
    PredBelow Try.prog 56 #[.pointer (some ⟨ba, 0, none⟩), .pointer (some ⟨bb, 0, none⟩)] (fun c => .agg (cirC c)) (isBetween a b) W := fun V c h =>
  (open1_calls V ba bb a b c ((h.cell (World.block_lt_of_cell? _ _ ha)).trans ha) ((h.cell (World.block_lt_of_cell? _ _ hb)).trans hb)).mono fun _ _ ⟨he, hB⟩ => ⟨he, h.trans (hB.mono h.size)⟩
end Go.Proofs.Yteajlffchdbkjaa.Ci

namespace Go.Proofs.Yteajlffchdbkjaa.Ci
open Go.RowKit Go.Maps Go.Shelf Go.Proofs.Yteajlffchdbkjaa.Rv Go.Proofs.YteajlffchdbkjaaW.PrintWords Go.Proofs.YteajlffchdbkjaaW.PrintLast Go.Proofs.YteajlffchdbkjaaW.PrintMore
set_option linter.unusedVariables false
theorem aggC (w : World) : (isAgg 50).run Try.prog w = .ok true w := by kernel_rfl
theorem sizeC (w : World) : (Go.sizeOf 50).run Try.prog w = .ok 6 w := by kernel_rfl
theorem openIn_calls (ba bb : Nat) (a b : Int) (gr c : Nat) (L : List CirP) (w : World) (ha : w.cell? ⟨ba, 0, none⟩ = some (.int .i64 a)) (hb : w.cell? ⟨bb, 0, none⟩ = some (.int .i64 b)) (hl : L.length ≤ 9223372036854775807) (hg : gr < w.heap.size)
    (hc : ∀ i (hi : i < L.length) (j : Nat) (hj : j < 6), w.cell? ⟨gr, i * 6 + j, none⟩ = (cirC L[i])[j]?) :
    Calls Try.prog 57 #[.slice (some ⟨gr, 0, none⟩) L.length c, .func (.func 56) #[] #[.pointer (some ⟨ba, 0, none⟩), .pointer (some ⟨bb, 0, none⟩)]] w fun e w' => e = .returned (.bool (L.any (isBetween a b))) ∧ Below w.heap.size w w' := by
  have h := AnyQ.slices_ContainsFunc Try.containsC 6 aggC sizeC (fun c : CirP => (cirC c).toList) (fun _ => rfl) (isBetween a b) 56 #[.pointer (some ⟨ba, 0, none⟩), .pointer (some ⟨bb, 0, none⟩)] (enters_of Try.func56 (by kernel_rfl) rfl) gr 0 L.length c L w (open_pred w ba bb a b ha hb) (Nat.le_refl _) hl hg (fun j hj i v hi => by
    have hi6 : i < 6 := (List.getElem?_eq_some_iff.1 hi).1
    rw [Nat.zero_add, hc j hj i hi6, ← Array.getElem?_toList, ← hi, getElem!_pos L j hj])
  rw [List.take_length] at h
  exact h
theorem placeIn_calls (bn : Nat) (no : Int) (gr c : Nat) (L : List CirP) (w : World) (hb : w.cell? ⟨bn, 0, none⟩ = some (.int .i64 no)) (hl : L.length ≤ 9223372036854775807) (hg : gr < w.heap.size)
    (hc : ∀ i (hi : i < L.length) (j : Nat) (hj : j < 6), w.cell? ⟨gr, i * 6 + j, none⟩ = (cirC L[i])[j]?) :
    Calls Try.prog 77 #[.slice (some ⟨gr, 0, none⟩) L.length c, .func (.func 78) #[] #[.pointer (some ⟨bn, 0, none⟩)]] w fun e w' => e = .returned (.int .i64 (Lib.idxBy (fun _ y => y.1 == no) L default)) ∧ Below w.heap.size w w' := by
  have h := AnyQ.slices_IndexFunc Try.indexC 6 aggC sizeC (fun c : CirP => (cirC c).toList) (fun _ => rfl) (fun c => c.1 == no) 78 #[.pointer (some ⟨bn, 0, none⟩)] (enters_of Try.func78 (by kernel_rfl) rfl) gr 0 L.length c L w (place_pred w bn no hb) (Nat.le_refl _) hl hg (fun j hj i v hi => by
    have hi6 : i < 6 := (List.getElem?_eq_some_iff.1 hi).1
    rw [Nat.zero_add, hc j hj i hi6, ← Array.getElem?_toList, ← hi, getElem!_pos L j hj])
  rw [List.take_length] at h
  exact h
end Go.Proofs.Yteajlffchdbkjaa.Ci
namespace Go.Proofs.Yteajlffchdbkjaa.Ci
open Go.RowKit Go.Maps Go.Shelf Go.Proofs.Yteajlffchdbkjaa.Rv Go.Proofs.YteajlffchdbkjaaW.PrintWords Go.Proofs.YteajlffchdbkjaaW.PrintLast Go.Proofs.YteajlffchdbkjaaW.PrintMore
theorem oneC (L : List CirP) : ∀ u ∈ flatC L, u.oneCell' = true := by
  intro u hu
  unfold flatC at hu
  obtain ⟨x, _, hx⟩ := List.mem_flatMap.1 hu
  simp [cirC] at hx
  rcases hx with rfl | rfl | rfl | rfl | rfl | rfl <;> rfl
theorem clone_calls (gr c : Nat) (L : List CirP) (w : World) (hl : L.length * 48 ≤ 140737488355328)
    (hc : ∀ j u, (flatC L)[j]? = some u → w.cell? ⟨gr, j, none⟩ = some u) :
    Calls Try.prog 65 #[.slice (some ⟨gr, 0, none⟩) L.length c] w fun e w' => ∃ v', e = .returned v' ∧ w'.ownsRow w.heap.size 50 6 v' L.length (flatC L) ∧ v' ≠ .slice none 0 0 ∧ Below w.heap.size w w' := by
  obtain ⟨i0, hi, hz⟩ := Option.map_eq_some_iff.1 infoC
  simp only [Prod.mk.injEq] at hz
  obtain ⟨z1, z2, z3⟩ := hz
  exact AnyE.slices_Clone Try.cloneC i0 (.agg (cirC (0, 0, 0, 0, 0, 0))) 6 48 hi z1 z2 z3 rfl (by decide) sizeC gr 0 L.length c (flatC L) w (flatC_len L) (by unfold maxLen; omega) hl (fun j u h => by rw [Nat.zero_add]; exact hc j u h) (oneC L)
end Go.Proofs.Yteajlffchdbkjaa.Ci
namespace Go.Proofs.Yteajlffchdbkjaa.Ci
open Go.RowKit Go.Maps Go.Shelf Go.Proofs.Yteajlffchdbkjaa.Rv Go.Proofs.YteajlffchdbkjaaW.PrintWords Go.Proofs.YteajlffchdbkjaaW.PrintLast Go.Proofs.YteajlffchdbkjaaW.PrintMore
set_option linter.unusedVariables false
set_option linter.unusedSimpArgs false
/-- All but ok's blocks lies as it lay. -/
def Kp (ok : Nat → Prop) (W W' : World) : Prop := W'.os = W.os ∧ W'.tape = W.tape ∧ W'.output = W.output ∧ W.heap.size ≤ W'.heap.size ∧ ∀ k, k < W.heap.size → ¬ ok k → W'.heap[k]? = W.heap[k]?
theorem Kp.refl (ok : Nat → Prop) (W : World) : Kp ok W W := ⟨rfl, rfl, rfl, Nat.le_refl _, fun _ _ _ => rfl⟩
theorem Kp.trans' {ok ok' : Nat → Prop} {A B C : World} (h : Kp ok A B) (k : Kp ok' B C) (ho : ∀ i, i < A.heap.size → ok' i → ok i) : Kp ok A C :=
  ⟨k.1.trans h.1, k.2.1.trans h.2.1, k.2.2.1.trans h.2.2.1, Nat.le_trans h.2.2.2.1 k.2.2.2.1, fun i hi hn => (k.2.2.2.2 i (Nat.lt_of_lt_of_le hi h.2.2.2.1) (fun e => hn (ho i hi e))).trans (h.2.2.2.2 i hi hn)⟩
theorem Kp.trans {ok : Nat → Prop} {A B C : World} (h : Kp ok A B) (k : Kp ok B C) : Kp ok A C := h.trans' k (fun _ _ e => e)
theorem Kp.mono {ok ok' : Nat → Prop} {A B : World} (h : Kp ok A B) (ho : ∀ i, i < A.heap.size → ok i → ok' i) : Kp ok' A B := ⟨h.1, h.2.1, h.2.2.1, h.2.2.2.1, fun i hi hn => h.2.2.2.2 i hi (fun e => hn (ho i hi e))⟩
theorem Kp.below {ok : Nat → Prop} {A B : World} (h : Below A.heap.size A B) : Kp ok A B := ⟨h.os, h.tape, h.output, h.size, fun i hi _ => h.block i hi⟩
theorem Kp.toBelow {ok : Nat → Prop} {A B : World} (h : Kp ok A B) {n : Nat} (hn : n ≤ A.heap.size) (ho : ∀ i, ok i → n ≤ i) : Below n A B := ⟨h.1, h.2.1, h.2.2.1, h.2.2.2.1, fun i hi => h.2.2.2.2 i (by omega) (fun e => by have := ho i e; omega)⟩
theorem Kp.none {ok : Nat → Prop} {A B : World} (h : Kp ok A B) (ho : ∀ i, ok i → False) : Below A.heap.size A B := h.toBelow (Nat.le_refl _) (fun i e => (ho i e).elim)
theorem Kp.grown {ok : Nat → Prop} {A B : World} {r : Option Nat} (h : A.grownBy B r) (hr : ∀ k, r = some k → ok k) : Kp ok A B := ⟨h.os, h.tape, h.output, h.size, fun i hi hn => h.block i hi (fun e => hn (hr i e.symm))⟩
theorem Kp.set {ok : Nat → Prop} {A B : World} (h : Kp ok A B) {p : Addr} (hp : ok p.block) (v : Value) : Kp ok A (B.setCell p v) := ⟨h.1, h.2.1, h.2.2.1, by simp [World.setCell]; exact h.2.2.2.1, fun b hb hn => (Below.heap_setCell _ _ _ _ (fun e => hn (by rw [e]; exact hp))).trans (h.2.2.2.2 b hb hn)⟩
theorem Kp.drew {ok : Nat → Prop} {A B : World} (h : Kp ok A B) : Kp ok A B.drew := h
/-- An owned row stays where its block stays. -/
theorem own_stays {A B : World} {base : Nat} {e : TypeId} {size : Nat} {v : Value} {n : Nat} {xs : List Value} (h : A.ownsRow base e size v n xs) (hk : ∀ k, v.ownBlock = some k → B.heap[k]? = A.heap[k]?) : B.ownsRow base e size v n xs := by
  refine ⟨h.1, h.2.imp id ?_⟩
  rintro ⟨gr, cap, cur, h1, h2, h3, h4⟩
  exact ⟨gr, cap, cur, h1, h2, (hk gr (by rw [h1]; rfl)).trans h3, h4⟩
theorem own_lt {A : World} {base : Nat} {e : TypeId} {size : Nat} {v : Value} {n : Nat} {xs : List Value} (h : A.ownsRow base e size v n xs) {k : Nat} (hk : v.ownBlock = some k) : k < A.heap.size := by
  obtain ⟨cells, hc⟩ := own_typed h k hk
  exact (Array.getElem?_eq_some_iff.1 hc).1
def okG (g : Nat) (v : Value) (k : Nat) : Prop := k = g ∨ v.ownBlock = some k
def NewB (W : World) (v v1 : Value) : Prop := v1.ownBlock = v.ownBlock ∨ ∃ b, v1.ownBlock = some b ∧ W.heap.size ≤ b
structure GoneSt (W : World) (tb g : Nat) (now : Int) (gc : Array Value) (v : Value) (G : List CirP) : Prop where
  tb : W.heap[tb]? = some (.cells #[.pointer (some ⟨g, 0, none⟩)] 73 (0, 0))
  g : W.heap[g]? = some (.cells gc 103 (0, 0))
  size : gc.size = 10
  now : gc[9]? = some (.int .i64 now)
  list : gc[7]? = some v
  own : W.ownsRow 0 50 6 v G.length (flatC G)
theorem GoneSt.lt {W : World} {tb g : Nat} {now : Int} {gc : Array Value} {v : Value} {G : List CirP} (h : GoneSt W tb g now gc v G) : tb < W.heap.size ∧ g < W.heap.size := ⟨(Array.getElem?_eq_some_iff.1 h.tb).1, (Array.getElem?_eq_some_iff.1 h.g).1⟩
theorem GoneSt.ne {W : World} {tb g : Nat} {now : Int} {gc : Array Value} {v : Value} {G : List CirP} (h : GoneSt W tb g now gc v G) : tb ≠ g ∧ v.ownBlock ≠ some tb ∧ v.ownBlock ≠ some g := by
  refine ⟨fun e => ?_, fun e => ?_, fun e => ?_⟩
  · have h1 := h.tb; rw [e, h.g] at h1; injection h1 with h1; injection h1 with _ h1; exact absurd h1 (by decide)
  · obtain ⟨cells, hc⟩ := own_typed h.own tb e; have h1 := h.tb; rw [hc] at h1; injection h1 with h1; injection h1 with _ h1; exact absurd h1 (by decide)
  · obtain ⟨cells, hc⟩ := own_typed h.own g e; have h1 := h.g; rw [hc] at h1; injection h1 with h1; injection h1 with _ h1; exact absurd h1 (by decide)
theorem GoneSt.step {W X : World} {tb g : Nat} {now : Int} {gc : Array Value} {v : Value} {G : List CirP} (h : GoneSt W tb g now gc v G) (hb : ∀ k, k < W.heap.size → k = tb ∨ okG g v k → X.heap[k]? = W.heap[k]?) : GoneSt X tb g now gc v G :=
  ⟨(hb tb h.lt.1 (.inl rfl)).trans h.tb, (hb g h.lt.2 (.inr (.inl rfl))).trans h.g, h.size, h.now, h.list, own_stays h.own (fun k hk => hb k (own_lt h.own hk) (.inr (.inr hk)))⟩
theorem GoneSt.below {W X : World} {tb g : Nat} {now : Int} {gc : Array Value} {v : Value} {G : List CirP} (h : GoneSt W tb g now gc v G) (hb : Below W.heap.size W X) : GoneSt X tb g now gc v G := h.step (fun k hk _ => hb.block k hk)
/-- on$1, whatever the circuit. -/
theorem on1_any (W : World) (tb g : Nat) (now : Int) (gc : Array Value) (v : Value) (G : List CirP) (c : CirP) (h : GoneSt W tb g now gc v G) (hl : (G.length + 1) * 48 ≤ 140737488355328) :
    (c.2.2.2.1 > now → Calls Try.prog 76 #[.agg (cirC c), .pointer (some ⟨tb, 0, none⟩)] W fun e w' => e = .returned (.bool false) ∧ Below W.heap.size W w') ∧
    (¬ c.2.2.2.1 > now → Calls Try.prog 76 #[.agg (cirC c), .pointer (some ⟨tb, 0, none⟩)] W fun e w' => e = .returned (.bool true) ∧ ∃ v1, GoneSt w' tb g now (gc.setIfInBounds 7 v1) v1 (G ++ [c]) ∧ NewB W v v1 ∧ Kp (okG g v) W w') := by
  have hs := h.size
  refine ⟨fun hc => on1_live W tb g now c (cell_cellsN h.tb 0 (Nat.zero_lt_succ 0)) ?_ hc, fun hc => (on1_gone W 0 tb g now c gc v G h.tb h.g h.size h.now h.list h.own (Nat.zero_le _) hl hc).mono ?_⟩
  · have hn := h.now
    rw [cell_cellsN h.g 9 (by omega), ← hn, Array.getElem?_eq_getElem]
  · rintro e w' ⟨he, v1, hat, hg, ho, hb, hk⟩
    have hb' : ∀ k, k < W.heap.size → ¬ okG g v k → w'.heap[k]? = W.heap[k]? := fun k hk' hn => hk k hk' (fun e => hn (.inl e)) (fun e => hn (.inr e.symm))
    have hne := h.ne
    refine ⟨he, v1, ⟨(hb' tb h.lt.1 (fun e => e.elim hne.1 hne.2.1)).trans h.tb, hg, by simp [hs], ?_, ?_, by rw [List.length_append, List.length_singleton]; exact ho⟩, hat, hb.os, hb.tape, hb.output, hb.size, hb'⟩
    · rw [Array.getElem?_setIfInBounds_ne (by decide)]; exact h.now
    · rw [Array.getElem?_setIfInBounds_self_of_lt (by omega)]
theorem liveC_cons (c : CirP) (L : List CirP) (now : Int) : liveC (c :: L) now = if c.2.2.2.1 > now then c :: liveC L now else liveC L now := by unfold liveC; rw [List.filter_cons]; simp
theorem liveC_snoc (c : CirP) (L : List CirP) (now : Int) : liveC (L ++ [c]) now = if c.2.2.2.1 > now then liveC L now ++ [c] else liveC L now := by unfold liveC; rw [List.filter_append]; by_cases h : c.2.2.2.1 > now <;> simp [h]
theorem goneC_snoc (c : CirP) (L : List CirP) (now : Int) : goneC (L ++ [c]) now = if c.2.2.2.1 > now then goneC L now else goneC L now ++ [c] := by
  unfold goneC; rw [List.filter_append]; by_cases h : c.2.2.2.1 > now <;> simp [h]
theorem liveC_all {L : List CirP} {now : Int} (h : ∀ i (hi : i < L.length), L[i].2.2.2.1 > now) : liveC L now = L ∧ goneC L now = [] := by
  refine ⟨List.filter_eq_self.2 (fun c hc => ?_), List.filter_eq_nil_iff.2 (fun c hc => ?_)⟩ <;>
  · obtain ⟨i, hi, rfl⟩ := List.getElem_of_mem hc
    simpa using h i hi
/-- The rows of a list that is read: nothing, or a block. -/
def RowAt (W : World) (A : Option Addr) (L : List CirP) (ok : Nat → Prop) : Prop := L.length = 0 ∨ ∃ gr, A = some ⟨gr, 0, none⟩ ∧ ok gr ∧ gr < W.heap.size ∧ ∀ X : World, X.heap[gr]? = W.heap[gr]? → ∀ i (hi : i < L.length) (j : Nat) (hj : j < 6), X.cell? ⟨gr, i * 6 + j, none⟩ = (cirC L[i])[j]?
def IdxPost (W : World) (tb g : Nat) (now : Int) (gc : Array Value) (v : Value) (G L : List CirP) (e : Ending) (w' : World) : Prop :=
      (e = .returned (.int .i64 (-1)) ∧ (∀ i (hi : i < L.length), L[i].2.2.2.1 > now) ∧ Below W.heap.size W w') ∨
      (∃ k, ∃ hk : k < L.length, e = .returned (.int .i64 k) ∧ (∀ i (hi : i < k), (L[i]'(by omega)).2.2.2.1 > now) ∧ ¬ L[k].2.2.2.1 > now ∧ ∃ v1, GoneSt w' tb g now (gc.setIfInBounds 7 v1) v1 (G ++ [L[k]]) ∧ NewB W v v1 ∧ Kp (okG g v) W w')
set_option maxRecDepth 100000 in
set_option maxHeartbeats 4000000 in
theorem indexOn_calls (W : World) (tb g : Nat) (now : Int) (gc : Array Value) (v : Value) (G : List CirP) (A : Option Addr) (cp : Nat) (L : List CirP) (h : GoneSt W tb g now gc v G) (hR : RowAt W A L (fun k => True)) (hl : (G.length + 1) * 48 ≤ 140737488355328) (hm : L.length ≤ 1000000000) :
    Calls Try.prog 77 #[.slice A L.length cp, .func (.func 76) #[] #[.pointer (some ⟨tb, 0, none⟩)]] W (IdxPost W tb g now gc v G L) := by
  have eg : ∀ args w, (callFunc 76 args).run Try.prog w = .ok (.enter 76 args) w := enters_of Try.func76 (by kernel_rfl) rfl
  obtain ⟨m, hm2⟩ : ∃ m, L.length = m := ⟨_, rfl⟩
  have HM := Lib.hid hm2
  have HH := Lib.hid h
  have HR := Lib.hid hR
  have HL := Lib.hid hl
  rw [hm2] at hm ⊢
  clear h hR hl hm2
  go_enter Try.func77, Try.ntmps77
  go_wp2
  go_loopw [8] (fun v8 wr => ∃ i : Nat, v8 = .int .i64 i ∧ i ≤ m ∧ Hid (∀ j (hj : j < i), ∃ h2 : j < L.length, L[j].2.2.2.1 > now) ∧ Hid (Below W.heap.size W wr)) (fun v8 _ => m - (intOf v8).toNat)
  case atStart => exact ⟨0, rfl, Nat.zero_le _, Lib.hid (fun j hj => absurd hj (Nat.not_lt_zero _)), Lib.hid (Below.refl _ _)⟩
  case round =>
    obtain ⟨i, rfl, hi, HLV, HB⟩ := hrel
    by_cases hlt : i < m
    · have hb1 : decide ((i : Int) < (m : Int)) = true := decide_eq_true (by omega)
      have hiL : i < L.length := by rw [HM.out]; exact hlt
      obtain ⟨gr, rfl, hx⟩ : ∃ gr, A = some ⟨gr, 0, none⟩ ∧ Hid (∀ j (hj : j < 6), wr.cell? ⟨gr, i * 6 + j, none⟩ = (cirC L[i])[j]?) := by
        rcases HR.out with h | ⟨gr, h1, _, h2, h3⟩
        · omega
        · exact ⟨gr, h1, Lib.hid (fun j hj => h3 wr (HB.out.block gr h2) i hiL j hj)⟩
      obtain ⟨⟨c0, c1, c2, c3, c4, c5⟩, hc⟩ : ∃ c, L[i] = c := ⟨_, rfl⟩
      have HC := Lib.hid hc
      have x0 : wr.cell? ⟨gr, i * 6, none⟩ = some (.int .i64 c0) := by have h := hx.out 0 (by omega); rw [hc] at h; exact h
      have x1 : wr.cell? ⟨gr, i * 6 + 1, none⟩ = some (.int .i64 c1) := by have h := hx.out 1 (by omega); rw [hc] at h; exact h
      have x2 : wr.cell? ⟨gr, i * 6 + 2, none⟩ = some (.int .i64 c2) := by have h := hx.out 2 (by omega); rw [hc] at h; exact h
      have x3 : wr.cell? ⟨gr, i * 6 + 3, none⟩ = some (.int .i64 c3) := by have h := hx.out 3 (by omega); rw [hc] at h; exact h
      have x4 : wr.cell? ⟨gr, i * 6 + 4, none⟩ = some (.int .i64 c4) := by have h := hx.out 4 (by omega); rw [hc] at h; exact h
      have x5 : wr.cell? ⟨gr, i * 6 + 5, none⟩ = some (.int .i64 c5) := by have h := hx.out 5 (by omega); rw [hc] at h; exact h
      have HG := Lib.hid (on1_any wr tb g now gc v G (c0, c1, c2, c3, c4, c5) (HH.out.below HB.out) HL.out)
      clear hc
      by_cases hlv : c3 > now
      · have K := Lib.hid (HG.out.1 hlv)
        go_wp2_with (first
          | (go_at_fn 76; refine K.out.mono ?_; rintro e w3 ⟨rfl, hb3⟩; have HB3 := Lib.hid hb3; clear hb3)
          | go_in)
        go_roundw
        case rel => exact ⟨i + 1, by go_num, by omega, Lib.hid (fun j hj => by
          by_cases e : j = i
          · subst e; exact ⟨hiL, by rw [HC.out]; exact hlv⟩
          · exact HLV.out j (by omega)), Lib.hid (HB.out.trans (HB3.out.mono HB.out.size))⟩
        case measure => simp [intOf]; omega
      · have K := Lib.hid (HG.out.2 hlv)
        go_wp2_with (first
          | (go_at_fn 76; refine K.out.mono ?_; rintro e w3 ⟨rfl, hb3⟩; have HB3 := Lib.hid hb3; clear hb3)
          | go_in)
        go_ret
        show _ ∨ _
        refine .inr ⟨i, hiL, rfl, fun j hj => ?_, by rw [HC.out]; show ¬ c3 > now; omega, ?_⟩
        · obtain ⟨h2, h3⟩ := HLV.out j hj
          exact h3
        · obtain ⟨v1, h1, h2, h3⟩ := HB3.out
          rw [HC.out]
          exact ⟨v1, h1, h2.imp id (fun ⟨b, e, hb⟩ => ⟨b, e, Nat.le_trans HB.out.size hb⟩), (Kp.below HB.out).trans h3⟩
    · have hb1 : decide ((i : Int) < (m : Int)) = false := decide_eq_false (by omega)
      go_wp2
      go_ret
      show _ ∨ _
      exact .inl ⟨rfl, fun j hj => by obtain ⟨h2, h3⟩ := HLV.out j (by rw [HM.out] at hj; omega); exact h3, HB.out⟩
end Go.Proofs.Yteajlffchdbkjaa.Ci
namespace Go.Proofs.Yteajlffchdbkjaa.Ci
open Go.RowKit Go.Maps Go.Shelf Go.Proofs.Yteajlffchdbkjaa.Rv Go.Proofs.YteajlffchdbkjaaW.PrintWords Go.Proofs.YteajlffchdbkjaaW.PrintLast Go.Proofs.YteajlffchdbkjaaW.PrintMore
set_option linter.unusedVariables false
set_option linter.unusedSimpArgs false
theorem setCells_block (g : Nat) (e : TypeId) : ∀ (vs : List Value) (o : Nat) (w : World) (cur : Array Value), w.heap[g]? = some (.cells cur e (0, 0)) → o + vs.length ≤ cur.size →
    ∃ cur', (w.setCells g o vs).heap[g]? = some (.cells cur' e (0, 0)) ∧ cur'.size = cur.size ∧ cur'.toList = cur.toList.take o ++ vs ++ cur.toList.drop (o + vs.length)
  | [], o, w, cur, h, _ => ⟨cur, h, rfl, by simp⟩
  | z :: r, o, w, cur, h, hs => by
    simp only [List.length_cons] at hs
    obtain ⟨cur', h1, h2, h3⟩ := setCells_block g e r (o + 1) (w.setCell ⟨g, o, none⟩ z) (cur.setIfInBounds o z) (set_cellsN o h rfl) (by simp; omega)
    refine ⟨cur', h1, by simpa using h2, ?_⟩
    rw [h3, Array.toList_setIfInBounds, List.length_cons]
    have e1 : (cur.toList.set o z).take (o + 1) = cur.toList.take o ++ [z] := by
      rw [List.take_set, List.set_eq_take_append_cons_drop, if_pos (by simp; omega), List.take_take, Nat.min_eq_left (by omega)]
      rw [List.drop_eq_nil_of_le (by rw [List.length_take]; exact Nat.min_le_left _ _)]
    rw [e1, List.drop_set_of_lt (by omega), show o + 1 + r.length = o + (r.length + 1) by omega]
    simp
theorem setCells_other (g : Nat) : ∀ (vs : List Value) (o : Nat) (w : World), (w.setCells g o vs).os = w.os ∧ (w.setCells g o vs).tape = w.tape ∧ (w.setCells g o vs).output = w.output ∧ (w.setCells g o vs).heap.size = w.heap.size ∧ ∀ k, k ≠ g → (w.setCells g o vs).heap[k]? = w.heap[k]?
  | [], o, w => ⟨rfl, rfl, rfl, rfl, fun _ _ => rfl⟩
  | z :: r, o, w => by
    obtain ⟨h1, h2, h3, h4, h5⟩ := setCells_other g r (o + 1) (w.setCell ⟨g, o, none⟩ z)
    exact ⟨h1, h2, h3, by rw [World.setCells, h4]; simp [World.setCell], fun k hk => (h5 k hk).trans (Below.heap_setCell _ _ _ _ hk)⟩
theorem Kp.setCells {ok : Nat → Prop} {A B : World} (h : Kp ok A B) {g : Nat} (hg : ok g) (o : Nat) (vs : List Value) : Kp ok A (B.setCells g o vs) := by
  obtain ⟨h1, h2, h3, h4, h5⟩ := setCells_other g vs o B
  exact ⟨h1.trans h.1, h2.trans h.2.1, h3.trans h.2.2.1, by rw [h4]; exact h.2.2.2.1, fun k hk hn => (h5 k (fun e => hn (e ▸ hg))).trans (h.2.2.2.2 k hk hn)⟩
theorem flatC_cons (c : CirP) (L : List CirP) : flatC (c :: L) = (cirC c).toList ++ flatC L := List.flatMap_cons
theorem flatC_take : ∀ (L : List CirP) (i : Nat), flatC (L.take i) = (flatC L).take (i * 6)
  | [], i => by simp [flatC]
  | x :: r, 0 => by simp [flatC]
  | x :: r, i + 1 => by
    have h := flatC_take r i
    have hl : (cirC x).toList.length = 6 := rfl
    show (cirC x).toList ++ flatC (r.take i) = ((cirC x).toList ++ flatC r).take _
    rw [h, List.take_append, List.take_of_length_le (l := (cirC x).toList) (by rw [hl]; omega), hl, show (i + 1) * 6 - 6 = i * 6 by omega]
theorem flatC_drop (L : List CirP) (i : Nat) (hi : i ≤ L.length) : flatC (L.drop i) = (flatC L).drop (i * 6) := by
  have h : flatC L = flatC (L.take i) ++ flatC (L.drop i) := by rw [← flatC_app, List.take_append_drop]
  have hl : (flatC (L.take i)).length = i * 6 := by rw [flatC_len, List.length_take, Nat.min_eq_left hi]
  rw [h, ← hl, List.drop_left]
theorem own_slice {w : World} {gr cap n : Nat} {D : List CirP} (h : w.ownsRow 0 50 6 (.slice (some ⟨gr, 0, none⟩) n cap) n (flatC D)) : D.length = n ∧ n ≤ cap ∧ cap ≤ maxLen ∧ ∃ cur, w.heap[gr]? = some (.cells cur 50 (0, 0)) ∧ cur.size = cap * 6 ∧ cur.toList.take (n * 6) = flatC D := by
  obtain ⟨h0, ⟨h1, _⟩ | ⟨g, cp, cur, h1, h2, h3, h4, h5, h6, h7⟩⟩ := h
  · cases h1
  · cases h1
    rw [flatC_len] at h0
    exact ⟨by omega, h4, h5, cur, h3, h6, h7⟩
theorem own_mk {w : World} {gr cap n : Nat} {D : List CirP} (hn : D.length = n) (h4 : n ≤ cap) (h5 : cap ≤ maxLen) {cur : Array Value} (h3 : w.heap[gr]? = some (.cells cur 50 (0, 0))) (h6 : cur.size = cap * 6) (h7 : cur.toList.take (n * 6) = flatC D) : w.ownsRow 0 50 6 (.slice (some ⟨gr, 0, none⟩) n cap) n (flatC D) :=
  ⟨by rw [flatC_len, hn], .inr ⟨gr, cap, cur, rfl, Nat.zero_le _, h3, h4, h5, h6, h7⟩⟩
set_option maxHeartbeats 1000000 in
theorem own_set {w : World} {gr cap n : Nat} {D : List CirP} (h : w.ownsRow 0 50 6 (.slice (some ⟨gr, 0, none⟩) n cap) n (flatC D)) (i : Nat) (hi : i < n) (c : CirP) : (w.setCells gr (i * 6) (cirC c).toList).ownsRow 0 50 6 (.slice (some ⟨gr, 0, none⟩) n cap) n (flatC (D.set i c)) := by
  obtain ⟨h1, h2, h3, cur, h4, h5, h6⟩ := own_slice h
  have hc : n * 6 ≤ cap * 6 := Nat.mul_le_mul_right 6 h2
  have hl : (cirC c).toList.length = 6 := rfl
  obtain ⟨cur', k1, k2, k3⟩ := setCells_block gr 50 (cirC c).toList (i * 6) w cur h4 (by rw [hl]; omega)
  refine own_mk (by simpa using h1) h2 h3 k1 (by rw [k2, h5]) ?_
  rw [k3, hl, List.set_eq_take_append_cons_drop, if_pos (by omega)]
  have e1 : cur.toList.take (i * 6) = flatC (D.take i) := by rw [flatC_take, ← h6, List.take_take, Nat.min_eq_left (by omega)]
  have e2 : (cur.toList.drop (i * 6 + 6)).take (n * 6 - (i * 6 + 6)) = flatC (D.drop (i + 1)) := by
    rw [flatC_drop _ _ (by omega), ← h6, List.drop_take, show (i + 1) * 6 = i * 6 + 6 by omega]
  have l1 : (flatC (D.take i)).length = i * 6 := by rw [flatC_len, List.length_take]; omega
  have e3 : flatC (D.take i ++ c :: D.drop (i + 1)) = flatC (D.take i) ++ ((cirC c).toList ++ flatC (D.drop (i + 1))) := by rw [flatC_app, flatC_cons]
  rw [e3, e1, List.append_assoc, List.take_append, List.take_of_length_le (l := flatC (D.take i)) (by omega), l1, List.take_append, List.take_of_length_le (l := (cirC c).toList) (by omega), hl, ← e2, show n * 6 - i * 6 - 6 = n * 6 - (i * 6 + 6) by omega]
/-- A row whose cells from the i-th element on are written over is the row of its first i elements. -/
theorem own_cut {w : World} {gr cap n : Nat} {D : List CirP} (h : w.ownsRow 0 50 6 (.slice (some ⟨gr, 0, none⟩) n cap) n (flatC D)) (i : Nat) (hi : i ≤ n) (vs : List Value) (hv : vs.length ≤ (n - i) * 6) : (w.setCells gr (i * 6) vs).ownsRow 0 50 6 (.slice (some ⟨gr, 0, none⟩) i cap) i (flatC (D.take i)) := by
  obtain ⟨h1, h2, h3, cur, h4, h5, h6⟩ := own_slice h
  have hc : n * 6 ≤ cap * 6 := Nat.mul_le_mul_right 6 h2
  obtain ⟨cur', k1, k2, k3⟩ := setCells_block gr 50 vs (i * 6) w cur h4 (by omega)
  refine own_mk (by rw [List.length_take]; omega) (by omega) h3 k1 (by rw [k2, h5]) ?_
  have hl : (cur.toList.take (i * 6)).length = i * 6 := by rw [List.length_take]; simp; omega
  rw [k3, List.append_assoc, List.take_append_of_le_length (by omega), List.take_of_length_le (by omega), flatC_take, ← h6, List.take_take, Nat.min_eq_left (by omega)]
def zeroP : CirP := (0, 0, 0, 0, 0, 0)
theorem flatC_one (c : CirP) (n : Nat) : (flatC (List.replicate n c)).length = n * 6 := by rw [flatC_len, List.length_replicate]
/-- 'clear(s)' of a row of circuits. -/
theorem run_clear_cir (w : World) (ty : TypeId) (b o n c : Nat) (hn : 0 < n) (hc : ∀ j, j < n * 6 → (w.cell? ⟨b, o + j, none⟩).isSome = true) (hf : ∀ j, j < n * 6 → w.frozen? ⟨b, o + j, none⟩ = false) :
    (Builtin.clear_ #[45] ty #[.slice (some ⟨b, o, none⟩) n c]).run Try.prog w = .ok (.tuple #[]) (w.setCells b o (flatC (List.replicate n zeroP))) := by
  have hz : (Value.agg (cirC zeroP)).cells = cirC zeroP := by simp [Value.cells, cirC]
  have hzc : (Builtin.zeroCells (Value.agg (cirC zeroP)).cells n).toList = flatC (List.replicate n zeroP) := by
    rw [hz]
    apply List.ext_getElem?
    intro i
    by_cases hi : i < n * 6
    · have h1 := flatC_at (List.replicate n zeroP) (i / 6) (by simp; omega) (i % 6) (Nat.mod_lt _ (by omega))
      rw [show i / 6 * 6 + i % 6 = i by omega] at h1
      rw [h1, List.getElem_replicate]
      have : i % 6 < 6 := Nat.mod_lt _ (by omega)
      simp only [Builtin.zeroCells, Array.toList_map, List.getElem?_map, Array.toList_range]
      rw [List.getElem?_range (by simpa [cirC] using hi)]
      simp only [Option.map_some]
      rw [show (cirC zeroP).size = 6 from rfl, getElem!_pos (cirC zeroP) (i % 6) this, Array.getElem?_eq_getElem this]
    · rw [List.getElem?_eq_none (l := flatC (List.replicate n zeroP)) (by rw [flatC_one]; omega), List.getElem?_eq_none (by simp [Builtin.zeroCells, cirC]; omega)]
  have hst := run_storeCells_cells (P := Try.prog) b o (flatC (List.replicate n zeroP)) 0 w (by rw [flatC_one]; simpa using hc) (by rw [flatC_one]; simpa using hf) (oneC _)
  simp only [Nat.add_zero] at hst
  obtain ⟨m, rfl⟩ : ∃ m, n = m + 1 := ⟨n - 1, by omega⟩
  have hv := zeroC w
  simp only [Builtin.clear_]
  simp [run_underlying Try.underlying45, hv]
  rw [show cirC (0, 0, 0, 0, 0, 0) = cirC zeroP from rfl, hzc, hst]
  rfl
end Go.Proofs.Yteajlffchdbkjaa.Ci
namespace Go.Proofs.Yteajlffchdbkjaa.Ci
open Go.RowKit Go.Maps Go.Shelf Go.Proofs.Yteajlffchdbkjaa.Rv Go.Proofs.YteajlffchdbkjaaW.PrintWords Go.Proofs.YteajlffchdbkjaaW.PrintLast Go.Proofs.YteajlffchdbkjaaW.PrintMore
set_option linter.unusedVariables false
set_option linter.unusedSimpArgs false
theorem first_dead (now : Int) : ∀ L : List CirP, (∀ i (hi : i < L.length), L[i].2.2.2.1 > now) ∨ ∃ k, ∃ hk : k < L.length, (∀ i (hi : i < k), (L[i]'(by omega)).2.2.2.1 > now) ∧ ¬ L[k].2.2.2.1 > now
  | [] => .inl (fun i hi => absurd hi (Nat.not_lt_zero _))
  | c :: r => by
    by_cases h : c.2.2.2.1 > now
    · rcases first_dead now r with h1 | ⟨k, hk, h1, h2⟩
      · refine .inl (fun i hi => ?_)
        cases i with
        | zero => exact h
        | succ i => exact h1 i (by simpa using hi)
      · refine .inr ⟨k + 1, by simpa using hk, fun i hi => ?_, h2⟩
        cases i with
        | zero => exact h
        | succ i => exact h1 i (by omega)
    · exact .inr ⟨0, by simp, fun i hi => absurd hi (Nat.not_lt_zero _), h⟩
structure DInv (L : List CirP) (now : Int) (D : List CirP) (i j : Nat) : Prop where
  len : D.length = L.length
  take : D.take i = liveC (L.take j) now
  num : i = (liveC (L.take j) now).length
  drop : D.drop j = L.drop j
  lt : i < j
  le : j ≤ L.length
theorem take_snoc {L : List CirP} {j : Nat} (h : j < L.length) : L.take (j + 1) = L.take j ++ [L[j]] := by rw [List.take_add_one, List.getElem?_eq_getElem h]; rfl
theorem DInv.at {L : List CirP} {now : Int} {D : List CirP} {i j : Nat} (h : DInv L now D i j) (hj : j < L.length) : ∃ hd : j < D.length, D[j] = L[j] := by
  have hd : j < D.length := by rw [h.len]; exact hj
  refine ⟨hd, ?_⟩
  have e := congrArg (fun l => l[0]?) h.drop
  simp only [List.getElem?_drop, Nat.add_zero, List.getElem?_eq_getElem hd, List.getElem?_eq_getElem hj, Option.some.injEq] at e
  exact e
theorem DInv.start {L : List CirP} {now : Int} {k : Nat} (hk : k < L.length) (h1 : ∀ i (hi : i < k), (L[i]'(by omega)).2.2.2.1 > now) (h2 : ¬ L[k].2.2.2.1 > now) : DInv L now L k (k + 1) ∧ goneC (L.take (k + 1)) now = [L[k]] := by
  have ha := liveC_all (L := L.take k) (now := now) (fun i hi => by rw [List.getElem_take]; exact h1 i (by simp at hi; omega))
  have e : liveC (L.take (k + 1)) now = L.take k := by rw [take_snoc hk, liveC_snoc, if_neg h2, ha.1]
  refine ⟨⟨rfl, e.symm, by rw [e, List.length_take]; omega, rfl, by omega, by omega⟩, ?_⟩
  rw [take_snoc hk, goneC_snoc, if_neg h2, ha.2]; rfl
theorem DInv.keep {L : List CirP} {now : Int} {D : List CirP} {i j : Nat} (h : DInv L now D i j) (hj : j < L.length) (hc : L[j].2.2.2.1 > now) : DInv L now (D.set i L[j]) (i + 1) (j + 1) := by
  have hl := h.len
  have hlt := h.lt
  have e : liveC (L.take (j + 1)) now = liveC (L.take j) now ++ [L[j]] := by rw [take_snoc hj, liveC_snoc, if_pos hc]
  refine ⟨by simpa using hl, ?_, by rw [e, List.length_append, ← h.num]; rfl, ?_, by omega, hj⟩
  · rw [e, ← h.take, List.set_eq_take_append_cons_drop, if_pos (by omega), List.take_append, List.take_take, Nat.min_eq_right (by omega)]
    congr 1
    rw [List.length_take, show i + 1 - min i D.length = 1 by omega]
    rfl
  · rw [List.drop_set_of_lt (by omega), ← List.drop_drop, ← List.drop_drop, h.drop]
theorem DInv.skip {L : List CirP} {now : Int} {D : List CirP} {i j : Nat} (h : DInv L now D i j) (hj : j < L.length) (hc : ¬ L[j].2.2.2.1 > now) : DInv L now D i (j + 1) := by
  have hlt := h.lt
  have e : liveC (L.take (j + 1)) now = liveC (L.take j) now := by rw [take_snoc hj, liveC_snoc, if_neg hc]
  exact ⟨h.len, by rw [e]; exact h.take, by rw [e]; exact h.num, by rw [← List.drop_drop, ← List.drop_drop, h.drop], by omega, hj⟩
theorem DInv.done {L : List CirP} {now : Int} {D : List CirP} {i : Nat} (h : DInv L now D i L.length) : D.take i = liveC L now ∧ i = (liveC L now).length ∧ i < L.length := by
  have h1 := h.take
  have h2 := h.num
  rw [List.take_length] at h1 h2
  exact ⟨h1, h2, h.lt⟩
theorem gc_self {gc : Array Value} {v : Value} (hs : gc.size = 10) (h : gc[7]? = some v) : gc.setIfInBounds 7 v = gc := by
  apply Array.ext_getElem?
  intro i
  by_cases e : 7 = i
  · subst e; rw [Array.getElem?_setIfInBounds_self_of_lt (by omega), h]
  · rw [Array.getElem?_setIfInBounds_ne e]
theorem gc_twice (gc : Array Value) (v v' : Value) : (gc.setIfInBounds 7 v).setIfInBounds 7 v' = gc.setIfInBounds 7 v' := by simp
theorem row_of {w : World} {gr cap n : Nat} {D : List CirP} (h : w.ownsRow 0 50 6 (.slice (some ⟨gr, 0, none⟩) n cap) n (flatC D)) : gr < w.heap.size ∧ ∀ i (hi : i < D.length) (j : Nat) (hj : j < 6), w.cell? ⟨gr, i * 6 + j, none⟩ = (cirC D[i])[j]? ∧ w.frozen? ⟨gr, i * 6 + j, none⟩ = false := by
  obtain ⟨h1, h2, h3, cur, h4, h5, h6⟩ := own_slice h
  subst h1
  refine ⟨(Array.getElem?_eq_some_iff.1 h4).1, fun i hi j hj => ⟨?_, frozen_cellsN h4 _⟩⟩
  obtain ⟨A, c, hv, h7 | ⟨gr', hg, _, _, _, h8⟩⟩ := rowC_cells h
  · omega
  · cases hv; cases hg; exact h8 w rfl i hi j hj
theorem row_at {w : World} {base : Nat} {v : Value} {D : List CirP} (h : w.ownsRow base 50 6 v D.length (flatC D)) : ∃ A c, v = .slice A D.length c ∧ RowAt w A D (fun b => v.ownBlock = some b) := by
  obtain ⟨A, c, hv, h7 | ⟨gr', hg, _, h1, _, h8⟩⟩ := rowC_cells h
  · exact ⟨A, c, hv, .inl h7⟩
  · exact ⟨A, c, hv, .inr ⟨gr', hg, by rw [hv, hg]; rfl, h1, h8⟩⟩
theorem RowAt.any {w : World} {A : Option Addr} {D : List CirP} {ok : Nat → Prop} (h : RowAt w A D ok) : RowAt w A D (fun _ => True) := h.imp id (fun ⟨gr, h1, _, h2, h3⟩ => ⟨gr, h1, trivial, h2, h3⟩)
end Go.Proofs.Yteajlffchdbkjaa.Ci
namespace Go.Proofs.Yteajlffchdbkjaa.Ci
open Go.RowKit Go.Maps Go.Shelf Go.Proofs.Yteajlffchdbkjaa.Rv Go.Proofs.YteajlffchdbkjaaW.PrintWords Go.Proofs.YteajlffchdbkjaaW.PrintLast Go.Proofs.YteajlffchdbkjaaW.PrintMore
set_option linter.unusedVariables false
set_option linter.unusedSimpArgs false
set_option maxRecDepth 100000 in
set_option maxHeartbeats 8000000 in
theorem delfC_some (W : World) (tb g : Nat) (now : Int) (gc : Array Value) (v : Value) (G : List CirP) (gr cp : Nat) (L : List CirP) (h : GoneSt W tb g now gc v G) (HL : W.ownsRow 0 50 6 (.slice (some ⟨gr, 0, none⟩) L.length cp) L.length (flatC L)) (hsep : v.ownBlock ≠ some gr)
    (hl : (G.length + L.length + 1) * 48 ≤ 140737488355328) (hm : L.length ≤ 1000000) (k : Nat) (hk : k < L.length) (hk1 : ∀ i (hi : i < k), (L[i]'(by omega)).2.2.2.1 > now) (hk2 : ¬ L[k].2.2.2.1 > now) :
    Calls Try.prog 75 #[.slice (some ⟨gr, 0, none⟩) L.length cp, .func (.func 76) #[] #[.pointer (some ⟨tb, 0, none⟩)]] W fun e w' =>
      ∃ v1, e = .returned (.slice (some ⟨gr, 0, none⟩) (liveC L now).length cp) ∧ GoneSt w' tb g now (gc.setIfInBounds 7 v1) v1 (G ++ goneC L now) ∧ NewB W v v1 ∧ w'.ownsRow 0 50 6 (.slice (some ⟨gr, 0, none⟩) (liveC L now).length cp) (liveC L now).length (flatC (liveC L now)) ∧ Kp (fun b => okG g v b ∨ b = gr) W w' := by
  have eg : ∀ args w, (callFunc 76 args).run Try.prog w = .ok (.enter 76 args) w := enters_of Try.func76 (by kernel_rfl) rfl
  have hrow := row_of HL
  have hne := h.ne
  have hgt : gr ≠ tb ∧ gr ≠ g := by
    obtain ⟨_, _, _, cur, h4, _⟩ := own_slice HL
    refine ⟨fun e => ?_, fun e => ?_⟩
    · have h1 := h.tb; rw [← e, h4] at h1; injection h1 with h1; injection h1 with _ h1; exact absurd h1 (by decide)
    · have h1 := h.g; rw [← e, h4] at h1; injection h1 with h1; injection h1 with _ h1; exact absurd h1 (by decide)
  have hra : RowAt W (some ⟨gr, 0, none⟩) L (fun _ => True) := by
    obtain ⟨A, c, hv, h1⟩ := row_at HL
    cases hv
    exact h1.any
  have KI := indexOn_calls W tb g now gc v G (some ⟨gr, 0, none⟩) cp L h hra (Nat.le_trans (Nat.mul_le_mul_right 48 (Nat.succ_le_succ (Nat.le_add_right _ _))) hl) (Nat.le_trans hm (by decide))
  have hcap := (own_slice HL).2
  obtain ⟨m, hm2⟩ : ∃ m, L.length = m := ⟨_, rfl⟩
  have HM := Lib.hid hm2
  have HH := Lib.hid h
  have HLW := Lib.hid HL
  have HS := Lib.hid (show (∀ b, v.ownBlock = some b → b < W.heap.size) ∧ g < W.heap.size ∧ tb < W.heap.size ∧ gr < W.heap.size from ⟨fun b hb => own_lt h.own hb, h.lt.2, h.lt.1, hrow.1⟩)
  have HN := Lib.hid (show v.ownBlock ≠ some gr ∧ gr ≠ tb ∧ gr ≠ g from ⟨hsep, hgt.1, hgt.2⟩)
  have HB := Lib.hid hl
  have HK1 := Lib.hid hk1
  have HK2 := Lib.hid hk2
  have K1 := Lib.hid (KI.mono (R' := fun e w' => e = .returned (.int .i64 (k : Nat)) ∧ ∃ v1, GoneSt w' tb g now (gc.setIfInBounds 7 v1) v1 (G ++ [L[k]]) ∧ NewB W v v1 ∧ Kp (okG g v) W w') (fun e w' hh => by
    rcases hh with ⟨_, hall, _⟩ | ⟨k', hk', rfl, h1, h2, h3⟩
    · exact absurd (hall k hk) hk2
    · have : k' = k := by
        rcases Nat.lt_trichotomy k' k with c | c | c
        · exact absurd (hk1 k' c) h2
        · exact c
        · exact absurd (h1 k c) hk2
      subst this
      exact ⟨rfl, h3⟩))
  have hkm : k < m := by omega
  have hm3 : m ≤ 1000000 := by omega
  have hmc : m ≤ cp := by omega
  have hcm : cp ≤ maxLen := hcap.2.1
  unfold maxLen at hcm
  rw [hm2] at K1
  rw [hm2]
  have hne1 : ((k : Int) == -1) = false := beq_eq_false_iff_ne.2 (by omega)
  clear h HL hl hsep hrow hne hgt hra KI hm2 hm hk1 hk2 hcap
  go_enter Try.func75, Try.ntmps75
  go_wp2_with (go_at_call 77; refine K1.out.mono ?_; rintro e w1 ⟨rfl, hx1⟩; have HX1 := Lib.hid hx1; clear hx1)
  clear K1
  go_loopw [5, 6, 7] (fun s5 s6 _ wr => ∃ (i j : Nat) (D : List CirP) (v1 : Value), s5 = .int .i64 i ∧ s6 = .int .i64 j ∧ i < j ∧ j ≤ m ∧ Hid (DInv L now D i j) ∧ Hid (GoneSt wr tb g now (gc.setIfInBounds 7 v1) v1 (G ++ goneC (L.take j) now)) ∧ Hid (NewB W v v1) ∧ Hid (wr.ownsRow 0 50 6 (.slice (some ⟨gr, 0, none⟩) m cp) m (flatC D)) ∧ Hid (Kp (fun b => okG g v b ∨ b = gr) W wr)) (fun _ s6 _ _ => m - (intOf s6).toNat)
  case atStart =>
    obtain ⟨v1, h1, h2, h3⟩ := HX1.out
    have hs := DInv.start hk HK1.out (Int.not_lt.2 HK2.out)
    refine ⟨k, k + 1, L, v1, rfl, by go_num, by omega, by omega, Lib.hid hs.1, Lib.hid (by rw [hs.2]; exact h1), Lib.hid h2, Lib.hid ?_, Lib.hid (h3.mono (fun b _ e => .inl e))⟩
    have h4 := HLW.out
    rw [HM.out] at h4
    exact own_stays h4 (fun b hb => by cases hb; exact h3.2.2.2.2 _ HS.out.2.2.2 (fun e => e.elim HN.out.2.2 HN.out.1))
  case round =>
    obtain ⟨i, j, D, v1, rfl, rfl, hij, hj, HD, HG, HNB, HO, HKp⟩ := hrel
    by_cases hlt : j < m
    · have hb1 : decide ((j : Int) < (m : Int)) = true := decide_eq_true (by omega)
      have hjL : j < L.length := by rw [HM.out]; exact hlt
      have hDm : D.length = m := by rw [HD.out.len, HM.out]
      obtain ⟨hd, hdj⟩ := HD.out.at hjL
      obtain ⟨⟨c0, c1, c2, c3, c4, c5⟩, hc⟩ : ∃ c, L[j] = c := ⟨_, rfl⟩
      have hrow := row_of HO.out
      have HC := Lib.hid hc
      have x0 : wr.cell? ⟨gr, j * 6, none⟩ = some (.int .i64 c0) := by have h := (hrow.2 j hd 0 (by omega)).1; rw [hdj, hc] at h; exact h
      have x1 : wr.cell? ⟨gr, j * 6 + 1, none⟩ = some (.int .i64 c1) := by have h := (hrow.2 j hd 1 (by omega)).1; rw [hdj, hc] at h; exact h
      have x2 : wr.cell? ⟨gr, j * 6 + 2, none⟩ = some (.int .i64 c2) := by have h := (hrow.2 j hd 2 (by omega)).1; rw [hdj, hc] at h; exact h
      have x3 : wr.cell? ⟨gr, j * 6 + 3, none⟩ = some (.int .i64 c3) := by have h := (hrow.2 j hd 3 (by omega)).1; rw [hdj, hc] at h; exact h
      have x4 : wr.cell? ⟨gr, j * 6 + 4, none⟩ = some (.int .i64 c4) := by have h := (hrow.2 j hd 4 (by omega)).1; rw [hdj, hc] at h; exact h
      have x5 : wr.cell? ⟨gr, j * 6 + 5, none⟩ = some (.int .i64 c5) := by have h := (hrow.2 j hd 5 (by omega)).1; rw [hdj, hc] at h; exact h
      have HHD := Lib.hid hd
      have HDm := Lib.hid hDm
      clear hc hdj hrow hd hDm
      go_upto_region 8 with fail
      obtain ⟨X, hX⟩ : ∃ X, wr.alloc (.cells #[.int .i64 c0, .int .i64 c1, .int .i64 c2, .int .i64 c3, .int .i64 c4, .int .i64 c5] 50) = X := ⟨_, rfl⟩
      have hbX : Below wr.heap.size wr X := by rw [← hX]; exact (Below.refl _ _).alloc (Nat.le_refl _) _
      have hcl := new_cellsN wr 50 (cirC (c0, c1, c2, c3, c4, c5))
      have hcl : X.heap[wr.heap.size]? = some (.cells (cirC (c0, c1, c2, c3, c4, c5)) 50 (0, 0)) := by rw [← hX]; exact hcl
      obtain ⟨d0, d1, d2, d3, d4, d5⟩ := cir_cells hcl
      have HGX := Lib.hid (HG.out.below hbX)
      have HOX := Lib.hid (own_stays HO.out (fun b hb => hbX.block b (own_lt HO.out hb)))
      have HGB := Lib.hid (on1_any X tb g now _ v1 _ (c0, c1, c2, c3, c4, c5) HGX.out (by
        have h1 : (goneC (L.take j) now).length ≤ L.length := Nat.le_trans (List.length_filter_le _ _) (List.length_take_le' _ _)
        rw [List.length_append]
        exact Nat.le_trans (Nat.mul_le_mul_right 48 (by omega)) HB.out))
      rw [hX]
      have HBX := Lib.hid hbX
      have HCL := Lib.hid hcl
      clear hX x0 x1 x2 x3 x4 x5 hbX hcl
      by_cases hlv : c3 > now
      · have K := Lib.hid (HGB.out.1 hlv)
        go_upto_region 9 with (go_at_fn 76; refine K.out.mono ?_; rintro e w3 ⟨rfl, hb3⟩; have HB3 := Lib.hid hb3; clear hb3)
        have HOY := Lib.hid (own_stays HOX.out (fun b hb => HB3.out.block b (own_lt HOX.out hb)))
        have hrow := row_of HOY.out
        have hiD : i < D.length := by rw [HDm.out]; omega
        obtain ⟨⟨q0, q1, q2, q3, q4, q5⟩, hq⟩ : ∃ c, D[i] = c := ⟨_, rfl⟩
        have y0 : w3.cell? ⟨gr, i * 6, none⟩ = some (.int .i64 q0) := by have h := (hrow.2 i hiD 0 (by omega)).1; rw [hq] at h; exact h
        have f0 : w3.frozen? ⟨gr, i * 6, none⟩ = false := (hrow.2 i hiD 0 (by omega)).2
        have e0 : w3.cell? ⟨wr.heap.size, 0, none⟩ = some (.int .i64 c0) := (HB3.out.cell (World.block_lt_of_cell? _ _ d0)).trans d0
        have y1 : w3.cell? ⟨gr, i * 6 + 1, none⟩ = some (.int .i64 q1) := by have h := (hrow.2 i hiD 1 (by omega)).1; rw [hq] at h; exact h
        have f1 : w3.frozen? ⟨gr, i * 6 + 1, none⟩ = false := (hrow.2 i hiD 1 (by omega)).2
        have e1 : w3.cell? ⟨wr.heap.size, 1, none⟩ = some (.int .i64 c1) := (HB3.out.cell (World.block_lt_of_cell? _ _ d1)).trans d1
        have y2 : w3.cell? ⟨gr, i * 6 + 2, none⟩ = some (.int .i64 q2) := by have h := (hrow.2 i hiD 2 (by omega)).1; rw [hq] at h; exact h
        have f2 : w3.frozen? ⟨gr, i * 6 + 2, none⟩ = false := (hrow.2 i hiD 2 (by omega)).2
        have e2 : w3.cell? ⟨wr.heap.size, 2, none⟩ = some (.int .i64 c2) := (HB3.out.cell (World.block_lt_of_cell? _ _ d2)).trans d2
        have y3 : w3.cell? ⟨gr, i * 6 + 3, none⟩ = some (.int .i64 q3) := by have h := (hrow.2 i hiD 3 (by omega)).1; rw [hq] at h; exact h
        have f3 : w3.frozen? ⟨gr, i * 6 + 3, none⟩ = false := (hrow.2 i hiD 3 (by omega)).2
        have e3 : w3.cell? ⟨wr.heap.size, 3, none⟩ = some (.int .i64 c3) := (HB3.out.cell (World.block_lt_of_cell? _ _ d3)).trans d3
        have y4 : w3.cell? ⟨gr, i * 6 + 4, none⟩ = some (.int .i64 q4) := by have h := (hrow.2 i hiD 4 (by omega)).1; rw [hq] at h; exact h
        have f4 : w3.frozen? ⟨gr, i * 6 + 4, none⟩ = false := (hrow.2 i hiD 4 (by omega)).2
        have e4 : w3.cell? ⟨wr.heap.size, 4, none⟩ = some (.int .i64 c4) := (HB3.out.cell (World.block_lt_of_cell? _ _ d4)).trans d4
        have y5 : w3.cell? ⟨gr, i * 6 + 5, none⟩ = some (.int .i64 q5) := by have h := (hrow.2 i hiD 5 (by omega)).1; rw [hq] at h; exact h
        have f5 : w3.frozen? ⟨gr, i * 6 + 5, none⟩ = false := (hrow.2 i hiD 5 (by omega)).2
        have e5 : w3.cell? ⟨wr.heap.size, 5, none⟩ = some (.int .i64 c5) := (HB3.out.cell (World.block_lt_of_cell? _ _ d5)).trans d5
        clear hrow hq d0 d1 d2 d3 d4 d5 HGB K
        go_upto_region 10 with fail
        obtain ⟨Y, hY⟩ : ∃ Y, ((((((w3.setCell ⟨gr, i * 6, none⟩ (.int .i64 c0)).setCell ⟨gr, i * 6 + 1, none⟩ (.int .i64 c1)).setCell ⟨gr, i * 6 + 2, none⟩ (.int .i64 c2)).setCell ⟨gr, i * 6 + 3, none⟩ (.int .i64 c3)).setCell ⟨gr, i * 6 + 4, none⟩ (.int .i64 c4)).setCell ⟨gr, i * 6 + 5, none⟩ (.int .i64 c5)) = Y := ⟨_, rfl⟩
        have hYs : w3.setCells gr (i * 6) (cirC (c0, c1, c2, c3, c4, c5)).toList = Y := hY
        rw [hY]
        clear hY e0 e1 e2 e3 e4 e5 y0 y1 y2 y3 y4 y5 f0 f1 f2 f3 f4 f5
        have him : i < m := by omega
        have HY1 := Lib.hid (show Y.ownsRow 0 50 6 (.slice (some ⟨gr, 0, none⟩) m cp) m (flatC (D.set i (c0, c1, c2, c3, c4, c5))) by rw [← hYs]; exact own_set HOY.out i him _)
        have HYK := Lib.hid (show Kp (fun b => b = gr) w3 Y by rw [← hYs]; exact (Kp.refl (fun b => b = gr) _).setCells rfl _ _)
        clear hYs
        go_wp2
        go_roundw
        case rel =>
          have hnb := HNB.out
          have hg3 := (HGX.out.below HB3.out).step (fun b hb hok => HYK.out.2.2.2.2 b hb (fun e => by
            subst e
            rcases hok with e | e | e
            · exact HN.out.2.1 e
            · exact HN.out.2.2 e
            · rcases hnb with h1 | ⟨b', h1, h2⟩
              · exact HN.out.1 (h1 ▸ e)
              · rw [h1] at e; injection e with e; have := HS.out.2.2.2; omega))
          refine ⟨i + 1, j + 1, D.set i (c0, c1, c2, c3, c4, c5), v1, by go_num, by go_num, by omega, by omega, Lib.hid ?_, Lib.hid ?_, HNB, HY1, Lib.hid ?_⟩
          · have h1 := HD.out.keep hjL (by rw [HC.out]; exact hlv)
            rw [HC.out] at h1
            exact h1
          · rw [take_snoc hjL, goneC_snoc, if_pos (by rw [HC.out]; exact hlv)]
            exact hg3
          · exact ((HKp.out.trans (Kp.below HBX.out)).trans (Kp.below HB3.out)).trans (HYK.out.mono (fun b _ e => .inr e))
        case measure => simp [intOf]; omega
      · have K := Lib.hid (HGB.out.2 hlv)
        go_wp2_with (first
          | (go_at_fn 76; refine K.out.mono ?_; rintro e w3 ⟨rfl, hb3⟩; have HB3 := Lib.hid hb3; clear hb3)
          | go_in)
        go_roundw
        case rel =>
          have hlv : ¬ c3 > now := by omega
          obtain ⟨v2, h1, h2, h3⟩ := HB3.out
          have hnb := HNB.out
          have hxs := HBX.out.size
          have hks := HKp.out.2.2.2.1
          have hv1 : ∀ b, v1.ownBlock = some b → b ≠ gr := fun b e e2 => by
            subst e2
            rcases hnb with h1 | ⟨b', h1, h2⟩
            · exact HN.out.1 (h1 ▸ e)
            · rw [h1] at e; injection e with e; have := HS.out.2.2.2; omega
          refine ⟨i, j + 1, D, v2, rfl, by go_num, by omega, by omega, Lib.hid (HD.out.skip hjL (by rw [HC.out]; exact hlv)), Lib.hid ?_, Lib.hid ?_, Lib.hid ?_, Lib.hid ?_⟩
          · rw [take_snoc hjL, goneC_snoc, if_neg (by rw [HC.out]; exact hlv), HC.out, ← List.append_assoc]
            rw [gc_twice] at h1
            exact h1
          · rcases h2 with h2 | ⟨b, h2, h4⟩
            · rcases hnb with h5 | ⟨b', h5, h6⟩
              · exact .inl (h2.trans h5)
              · exact .inr ⟨b', h2.trans h5, h6⟩
            · exact .inr ⟨b, h2, by omega⟩
          · exact own_stays HOX.out (fun b hb => by cases hb; exact h3.2.2.2.2 _ (own_lt HOX.out rfl) (fun e => e.elim HN.out.2.2 (fun e => hv1 _ e rfl)))
          · refine (HKp.out.trans (Kp.below HBX.out)).trans' h3 (fun b hb e => ?_)
            rcases e with e | e
            · exact .inl (.inl e)
            · rcases hnb with h5 | ⟨b', h5, h6⟩
              · exact .inl (.inr (h5 ▸ e))
              · rw [h5] at e; injection e with e; omega
        case measure => simp [intOf]; omega
    · obtain rfl : m = j := by omega
      have hb1 : decide ((m : Int) < (m : Int)) = false := decide_eq_false (by omega)
      have hDm : D.length = m := by rw [HD.out.len, HM.out]
      have hrow := row_of HO.out
      have HCLR := Lib.hid (fun ty => run_clear_cir wr ty gr (i * 6) (m - i) (cp - i) (by omega) (fun t ht => by
        have h1 : (i * 6 + t) / 6 < D.length := by omega
        have h2 := (hrow.2 ((i * 6 + t) / 6) h1 ((i * 6 + t) % 6) (Nat.mod_lt _ (by omega))).1
        rw [show (i * 6 + t) / 6 * 6 + (i * 6 + t) % 6 = i * 6 + t by omega] at h2
        rw [h2]
        have h3 : (i * 6 + t) % 6 < (cirC D[(i * 6 + t) / 6]).size := Nat.mod_lt _ (by omega)
        rw [Array.getElem?_eq_getElem h3]; rfl) (fun t ht => by
        have h1 : (i * 6 + t) / 6 < D.length := by omega
        have h2 := (hrow.2 ((i * 6 + t) / 6) h1 ((i * 6 + t) % 6) (Nat.mod_lt _ (by omega))).2
        rw [show (i * 6 + t) / 6 * 6 + (i * 6 + t) % 6 = i * 6 + t by omega] at h2
        exact h2))
      obtain ⟨Y, hY⟩ : ∃ Y, wr.setCells gr (i * 6) (flatC (List.replicate (m - i) zeroP)) = Y := ⟨_, rfl⟩
      rw [hY] at HCLR
      have hclr := HCLR.out
      have HY := Lib.hid hY
      have HRW := Lib.hid hrow
      have HDm := Lib.hid hDm
      clear hrow hDm hY
      go_wp2
      go_ret
      obtain ⟨h1, h2, h3⟩ := (show DInv L now D i L.length by rw [HM.out]; exact HD.out).done
      have hnb := HNB.out
      have hYK : Kp (fun b => b = gr) wr Y := by rw [← HY.out]; exact (Kp.refl (fun b => b = gr) _).setCells rfl _ _
      have hO := own_cut HO.out i (by omega) (flatC (List.replicate (m - i) zeroP)) (by rw [flatC_one]; omega)
      rw [HY.out, h1] at hO
      have hG := HG.out.step (X := Y) (fun b hb hok => hYK.2.2.2.2 b hb (fun e => by
            subst e
            rcases hok with e | e | e
            · exact HN.out.2.1 e
            · exact HN.out.2.2 e
            · rcases hnb with h1 | ⟨b', h1, h2⟩
              · exact HN.out.1 (h1 ▸ e)
              · rw [h1] at e; injection e with e; have := HS.out.2.2.2; omega))
      rw [List.take_of_length_le (by rw [HM.out]; exact Nat.le_refl _)] at hG
      refine ⟨v1, by rw [← h2]; rfl, hG, hnb, by rw [← h2]; exact hO, HKp.out.trans (hYK.mono (fun b _ e => .inr e))⟩
end Go.Proofs.Yteajlffchdbkjaa.Ci
namespace Go.Proofs.Yteajlffchdbkjaa.Ci
open Go.RowKit Go.Maps Go.Shelf Go.Proofs.Yteajlffchdbkjaa.Rv Go.Proofs.YteajlffchdbkjaaW.PrintWords Go.Proofs.YteajlffchdbkjaaW.PrintLast Go.Proofs.YteajlffchdbkjaaW.PrintMore
set_option linter.unusedVariables false
set_option linter.unusedSimpArgs false
theorem bound48 {a b : Nat} (h : (a + b + 1) * 48 ≤ 140737488355328) : (a + 1) * 48 ≤ 140737488355328 := Nat.le_trans (Nat.mul_le_mul_right 48 (Nat.succ_le_succ (Nat.le_add_right _ _))) h
set_option maxRecDepth 100000 in
set_option maxHeartbeats 4000000 in
theorem delfC_all (W : World) (tb g : Nat) (now : Int) (gc : Array Value) (v : Value) (G : List CirP) (A : Option Addr) (cp : Nat) (L : List CirP) (h : GoneSt W tb g now gc v G) (hR : RowAt W A L (fun _ => True)) (hl : (G.length + L.length + 1) * 48 ≤ 140737488355328) (hm : L.length ≤ 1000000) (hall : ∀ i (hi : i < L.length), L[i].2.2.2.1 > now) :
    Calls Try.prog 75 #[.slice A L.length cp, .func (.func 76) #[] #[.pointer (some ⟨tb, 0, none⟩)]] W fun e w' => e = .returned (.slice A L.length cp) ∧ Below W.heap.size W w' := by
  have KI := indexOn_calls W tb g now gc v G A cp L h hR (bound48 hl) (Nat.le_trans hm (by decide))
  have K1 := Lib.hid (KI.mono (R' := fun e w' => e = .returned (.int .i64 (-1)) ∧ Below W.heap.size W w') (fun e w' hh => by
    rcases hh with ⟨he, _, hb⟩ | ⟨k', hk', rfl, h1, h2, h3⟩
    · exact ⟨he, hb⟩
    · exact absurd (hall k' hk') h2))
  obtain ⟨m, hm2⟩ : ∃ m, L.length = m := ⟨_, rfl⟩
  rw [hm2] at K1
  rw [hm2]
  clear KI h hR hl hall hm2 hm
  go_enter Try.func75, Try.ntmps75
  go_wp2_with (go_at_call 77; refine K1.out.mono ?_; rintro e w1 ⟨rfl, hx1⟩; have HX1 := Lib.hid hx1; clear hx1)
  go_ret
  exact ⟨rfl, HX1.out⟩
/-- What DeleteFunc leaves. -/
def DelPost (W : World) (tb g : Nat) (now : Int) (gc : Array Value) (v vl : Value) (G L : List CirP) (e : Ending) (w' : World) : Prop :=
  ∃ vl' v1, e = .returned vl' ∧ GoneSt w' tb g now (gc.setIfInBounds 7 v1) v1 (G ++ goneC L now) ∧ NewB W v v1 ∧ w'.ownsRow 0 50 6 vl' (liveC L now).length (flatC (liveC L now)) ∧ vl'.ownBlock = vl.ownBlock ∧ Kp (fun b => okG g v b ∨ vl.ownBlock = some b) W w'
theorem delfC_calls (W : World) (tb g : Nat) (now : Int) (gc : Array Value) (v vl : Value) (G L : List CirP) (h : GoneSt W tb g now gc v G) (HL : W.ownsRow 0 50 6 vl L.length (flatC L)) (hsep : ∀ k, vl.ownBlock = some k → v.ownBlock ≠ some k) (hl : (G.length + L.length + 1) * 48 ≤ 140737488355328) (hm : L.length ≤ 1000000) :
    Calls Try.prog 75 #[vl, .func (.func 76) #[] #[.pointer (some ⟨tb, 0, none⟩)]] W (DelPost W tb g now gc v vl G L) := by
  rcases first_dead now L with hall | ⟨k, hk, hk1, hk2⟩
  · obtain ⟨A, c, rfl, hra⟩ := row_at HL
    refine (delfC_all W tb g now gc v G A c L h hra.any hl hm hall).mono ?_
    rintro e w' ⟨rfl, hb⟩
    obtain ⟨h1, h2⟩ := liveC_all hall
    refine ⟨_, v, rfl, ?_, .inl rfl, ?_, rfl, Kp.below hb⟩
    · rw [gc_self h.size h.list, h2, List.append_nil]; exact h.below hb
    · rw [h1]; exact own_stays HL (fun b hb' => hb.block b (own_lt HL hb'))
  · have hvl : ∃ gr cp, vl = .slice (some ⟨gr, 0, none⟩) L.length cp := by
      obtain ⟨_, ⟨_, h2⟩ | ⟨gr, cp, _, h2, _⟩⟩ := HL
      · omega
      · exact ⟨gr, cp, h2⟩
    obtain ⟨gr, cp, rfl⟩ := hvl
    refine (delfC_some W tb g now gc v G gr cp L h HL (hsep gr rfl) hl hm k hk hk1 hk2).mono ?_
    rintro e w' ⟨v1, rfl, h1, h2, h3, h4⟩
    exact ⟨_, v1, rfl, h1, h2, h3, rfl, h4.mono (fun b _ e => e.imp id (fun e => by rw [e]; rfl))⟩
theorem drop_flat (L : List CirP) (i : Nat) (hi : i < L.length) : ∀ t u, (flatC (L.drop (i + 1)))[t]? = some u → (flatC L)[(i + 1) * 6 + t]? = some u := fun t u h => by
  rw [flatC_drop L (i + 1) (by omega), List.getElem?_drop] at h
  exact h
set_option maxRecDepth 100000 in
set_option maxHeartbeats 4000000 in
theorem del_calls (W : World) (gr cp i : Nat) (L : List CirP) (HL : W.ownsRow 0 50 6 (.slice (some ⟨gr, 0, none⟩) L.length cp) L.length (flatC L)) (hi : i < L.length) (hm : L.length ≤ 1000000) :
    Calls Try.prog 59 #[.slice (some ⟨gr, 0, none⟩) L.length cp, .int .i64 i, .int .i64 ((i : Int) + 1)] W fun e w' =>
      e = .returned (.slice (some ⟨gr, 0, none⟩) (L.eraseIdx i).length cp) ∧ w'.ownsRow 0 50 6 (.slice (some ⟨gr, 0, none⟩) (L.eraseIdx i).length cp) (L.eraseIdx i).length (flatC (L.eraseIdx i)) ∧ Kp (fun b => b = gr) W w' := by
  have hrow := row_of HL
  obtain ⟨hDl, hcap, hcm, _⟩ := own_slice HL
  unfold maxLen at hcm
  obtain ⟨m, hm2⟩ : ∃ m, L.length = m := ⟨_, rfl⟩
  obtain ⟨news, hnews⟩ : ∃ news, news = flatC (L.drop (i + 1)) := ⟨_, rfl⟩
  have hlen : news.length = (m - (i + 1)) * 6 := by rw [hnews, flatC_len, List.length_drop, hm2]
  have hcell : ∀ t u, news[t]? = some u → W.cell? ⟨gr, (i + 1) * 6 + t, none⟩ = some u := fun t u hu => by
    have ht : t < news.length := (List.getElem?_eq_some_iff.1 hu).1
    rw [hnews] at hu
    have h1 := drop_flat L i hi t u hu
    have hd : ((i + 1) * 6 + t) / 6 < L.length := by omega
    have h2 := (hrow.2 (((i + 1) * 6 + t) / 6) hd (((i + 1) * 6 + t) % 6) (Nat.mod_lt _ (by omega))).1
    rw [← flatC_at L _ hd _ (Nat.mod_lt _ (by omega)), show ((i + 1) * 6 + t) / 6 * 6 + ((i + 1) * 6 + t) % 6 = (i + 1) * 6 + t by omega, h1] at h2
    exact h2
  obtain ⟨A, hA, hsrc⟩ : ∃ A : Addr, (if cp = i + 1 then some (⟨gr, 0, none⟩ : Addr) else some ⟨gr, (i + 1) * 6, none⟩) = some A ∧ Hid (∀ t u, news[t]? = some u → W.drew.cell? (A.add t) = some u) := by
    by_cases h : cp = i + 1
    · refine ⟨⟨gr, 0, none⟩, by simp [h], Lib.hid (fun t u hu => ?_)⟩
      have h0 : news.length = 0 := by rw [hlen]; omega
      rw [List.length_eq_zero_iff.1 h0] at hu
      simp at hu
    · refine ⟨⟨gr, (i + 1) * 6, none⟩, by simp [h], Lib.hid (fun t u hu => ?_)⟩
      rw [Addr.add_lit]
      exact hcell t u hu
  have s1 : Hid (news.length = (m - (i + 1)) * 6) := Lib.hid hlen
  have s2 : Hid (∀ u ∈ news, u.oneCell' = true) := Lib.hid (by rw [hnews]; exact oneC _)
  have s3 : Hid (∀ t, t < news.length → (W.drew.cell? ⟨gr, 0 + i * 6 + t, none⟩).isSome = true ∧ W.drew.frozen? ⟨gr, 0 + i * 6 + t, none⟩ = false) := Lib.hid (fun t ht => by
    have hd : (i * 6 + t) / 6 < L.length := by omega
    have h2 := hrow.2 ((i * 6 + t) / 6) hd ((i * 6 + t) % 6) (Nat.mod_lt _ (by omega))
    rw [show (i * 6 + t) / 6 * 6 + (i * 6 + t) % 6 = i * 6 + t by omega] at h2
    rw [Nat.zero_add]
    refine ⟨?_, h2.2⟩
    show (W.cell? _).isSome = true
    rw [h2.1]
    have h3 : (i * 6 + t) % 6 < (cirC L[(i * 6 + t) / 6]).size := Nat.mod_lt _ (by omega)
    rw [Array.getElem?_eq_getElem h3]; rfl)
  obtain ⟨W1, hW1⟩ : ∃ W1, W1 = W.drew.setCells gr (0 + i * 6) news := ⟨_, rfl⟩
  obtain ⟨i0, hi0, hz⟩ := Option.map_eq_some_iff.1 infoC
  simp only [Prod.mk.injEq] at hz
  obtain ⟨_, hz1, _⟩ := hz
  have b1 : ((i : Int) == (i : Int) + 1) = false := beq_eq_false_iff_ne.2 (by omega)
  have him : i < m := by omega
  have hmc : m ≤ cp := by omega
  have hm3 : m ≤ 1000000 := by omega
  have HLW := Lib.hid HL
  have HM := Lib.hid hm2
  have hW : Hid (W1 = W.drew.setCells gr (0 + i * 6) news) := Lib.hid hW1
  have HNW := Lib.hid hnews
  rw [hm2]
  obtain ⟨j, hj⟩ : ∃ j, i + 1 = j := ⟨_, rfl⟩
  rw [show (i : Int) + 1 = (j : Int) by omega]
  rw [show (i : Int) + 1 = (j : Int) by omega] at b1
  rw [hj] at hA s1
  have hij : i < j := by omega
  have hjm : j ≤ m := by omega
  have hic : i ≤ cp := by omega
  have hjc : j ≤ cp := by omega
  have HW1 : ∃ cur', W1.heap[gr]? = some (.cells cur' 50 (0, 0)) ∧ cur'.size = cp * 6 ∧ cur'.toList.take ((m - 1) * 6) = flatC (L.eraseIdx i) ∧ Kp (fun b => b = gr) W W1 := by
    obtain ⟨_, h2, _, cur, h4, h5, h6⟩ := own_slice HL
    obtain ⟨cur', k1, k2, k3⟩ := setCells_block gr 50 news (0 + i * 6) W.drew cur h4 (by omega)
    refine ⟨cur', by rw [hW1]; exact k1, by omega, ?_, by rw [hW1]; exact (Kp.refl (fun b => b = gr) W).drew.setCells rfl _ _⟩
    have e1 : cur.toList.take (i * 6) = flatC (L.take i) := by rw [flatC_take, ← h6, List.take_take, Nat.min_eq_left (by omega)]
    rw [k3, Nat.zero_add, e1, List.eraseIdx_eq_take_drop_succ, flatC_app, ← hnews, List.take_append_of_le_length (by rw [List.length_append, flatC_len, List.length_take, hlen]; omega), List.take_of_length_le (by rw [List.length_append, flatC_len, List.length_take, hlen]; omega)]
  obtain ⟨cur', HW2, hcur, HW3, HW4⟩ := HW1
  have hcell1 : ∀ t, t < cp * 6 → (W1.cell? ⟨gr, t, none⟩).isSome = true ∧ W1.frozen? ⟨gr, t, none⟩ = false := fun t ht => by
    rw [cell_cellsN HW2 t (by omega)]
    exact ⟨rfl, frozen_cellsN HW2 t⟩
  have hel : (L.eraseIdx i).length = m - 1 := by rw [List.length_eraseIdx, if_pos hi, hm2]
  have hclr := fun ty => run_clear_cir W1 ty gr ((i + (m - j)) * 6) (m - (i + (m - j))) (cp - (i + (m - j))) (by omega) (fun t ht => (hcell1 _ (by omega)).1) (fun t ht => (hcell1 _ (by omega)).2)
  obtain ⟨Z, hZ⟩ : ∃ Z, W1.setCells gr ((i + (m - j)) * 6) (flatC (List.replicate (m - (i + (m - j))) zeroP)) = Z := ⟨_, rfl⟩
  rw [hZ] at hclr
  have HPOST := Lib.hid (show i + (m - j) = (L.eraseIdx i).length ∧ Z.ownsRow 0 50 6 (.slice (some ⟨gr, 0, none⟩) (L.eraseIdx i).length cp) (L.eraseIdx i).length (flatC (L.eraseIdx i)) ∧ Kp (fun b => b = gr) W Z from by
    have e : i + (m - j) = m - 1 := by omega
    rw [e] at hZ
    have hzl : (flatC (List.replicate (m - (m - 1)) zeroP)).length = (m - (m - 1)) * 6 := flatC_one _ _
    obtain ⟨cur2, k1, k2, k3⟩ := setCells_block gr 50 (flatC (List.replicate (m - (m - 1)) zeroP)) ((m - 1) * 6) W1 cur' HW2 (by omega)
    rw [hZ] at k1
    refine ⟨by omega, own_mk rfl (by omega) (by unfold maxLen; omega) k1 (by omega) ?_, by rw [← hZ]; exact HW4.setCells rfl _ _⟩
    rw [hel, k3, List.append_assoc, List.take_append_of_le_length (by rw [List.length_take, Array.length_toList]; omega), List.take_take, Nat.min_self, HW3])
  clear hcell1 hel hZ HW2 hcur HW3 HW4 cur'
  have HJ := Lib.hid hj
  clear hj
  clear hrow hDl hcap hm2 hcell hlen hnews hW1 HL hi hm
  go_enter Try.func59, Try.ntmps59
  go_wp2_with fail
  go_region_law (refine step_append_room rfl (.tmp 22) (.tmp 25) 45 rfl 50 i0 6 Try.underlying45 hi0 hz1 gr 0 i cp (by simp [Act.eval, Act.put]) A (m - j) (cp - j) news (by simp [Act.eval, Act.put]) s1.out hsrc.out s2.out (by omega) s3.out ?_; rw [← hW.out])
  go_wp2
  go_ret
  obtain ⟨h1, h2, h3⟩ := HPOST.out
  exact ⟨by rw [← h1]; rfl, h2, h3⟩
end Go.Proofs.Yteajlffchdbkjaa.Ci
