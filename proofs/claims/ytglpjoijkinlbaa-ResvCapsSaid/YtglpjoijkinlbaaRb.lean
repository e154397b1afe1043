/-
  resv: the time goes on: maps.DeleteFunc with the closure of (*Table).on, and on. Conditions: as the theorems state them.
-/
import Derived.Test.YtglpjoijkinlbaaRa
import Derived.Shelf.Abstract
namespace Go.Proofs.Ytglpjoijkinlbaa.Rv
open Go.RowKit Go.Maps Go.Shelf
set_option linter.unusedVariables false
set_option linter.unusedSimpArgs false
attribute [local go_sem] Oper.semAt_some
theorem K3 : Keyed Try.prog 3 := int_keyed Try.underlying3
theorem cell_cellsN {w : World} {g t : Nat} {cs : Array Value} (h : w.heap[g]? = some (.cells cs t (0, 0))) (j : Nat) (hj : j < cs.size) : w.cell? ⟨g, j, none⟩ = some cs[j] := by unfold World.cell?; rw [h]; simp [hj]
theorem new_cellsN (w : World) (t : TypeId) (cs : Array Value) : (w.alloc (.cells cs t)).heap[w.heap.size]? = some (.cells cs t (0, 0)) := (MapKept.heap_alloc w (.cells cs t)).1
theorem held_cells {V : World} {g : Nat} {q : HeldP} (h : V.heap[g]? = some (.cells (heldC q) 38 (0, 0))) : V.cell? ⟨g, 0, none⟩ = some (.int .i64 q.1) ∧ V.cell? ⟨g, 1, none⟩ = some (.int .u32 q.2.1) ∧ V.cell? ⟨g, 2, none⟩ = some (.int .i64 q.2.2) :=
  ⟨cell_cellsN h 0 (by simp [heldC]), cell_cellsN h 1 (by simp [heldC]), cell_cellsN h 2 (by simp [heldC])⟩
set_option maxRecDepth 100000 in
set_option maxHeartbeats 2000000 in
theorem closure_calls (W : World) (k : Value) (p hh u now : Int) (bx g : Nat) (hbx : W.cell? ⟨bx, 0, none⟩ = some (.pointer (some ⟨g, 0, none⟩))) (hnow : W.cell? ⟨g, 7, none⟩ = some (.int .i64 now)) :
    Calls Try.prog 21 (#[k, .agg #[.int .i64 p, .int .u32 hh, .int .i64 u]] ++ #[.pointer (some ⟨bx, 0, none⟩)]) W fun e w' => e = .returned (.bool (decide (u ≤ now))) ∧ W.grownBy w' none := by
  obtain ⟨X, hX⟩ : ∃ X, W.alloc (.cells #[.int .i64 p, .int .u32 hh, .int .i64 u] 38) = X := ⟨_, rfl⟩
  have hg : W.grownBy X none := by rw [← hX]; exact World.grownBy_alloc W _ none
  have h1 : X.cell? ⟨bx, 0, none⟩ = some (.pointer (some ⟨g, 0, none⟩)) := hg.cell hbx (by simp)
  have h2 : X.cell? ⟨g, 7, none⟩ = some (.int .i64 now) := hg.cell hnow (by simp)
  have h3 : X.cell? ⟨W.heap.size, 2, none⟩ = some (.int .i64 u) := by rw [← hX]; exact cell_cellsN (new_cellsN W _ _) 2 (by simp)
  have HG := Lib.hid hg
  clear hg
  go_enter Try.func21, Try.ntmps21
  go_wp2
  go_region
  go_wp2
  go_ret
  exact ⟨rfl, HG.out.os, HG.out.tape, HG.out.output, HG.out.size, HG.out.block⟩
set_option maxRecDepth 100000 in
set_option maxHeartbeats 8000000 in
theorem delf_calls (L : List HeldP) (now : Int) (g bx b n : Nat) (w : World) (hown : w.ownsMap Try.prog 3 heldR b n (encL L)) (hbx : w.cell? ⟨bx, 0, none⟩ = some (.pointer (some ⟨g, 0, none⟩))) (hnow : w.cell? ⟨g, 7, none⟩ = some (.int .i64 now)) (hb : bx ≠ b) (hg : g ≠ b) :
    Calls Try.prog 20 #[.map (some b), .func (.func 21) #[] #[.pointer (some ⟨bx, 0, none⟩)]] w fun e w' => e = .returned (.tuple #[]) ∧ w'.ownsMap Try.prog 3 heldR b n (encL (overL L now)) ∧ w.grownBy w' (some b) := by
  have eg : ∀ args w, (callFunc 21 args).run Try.prog w = .ok (.enter 21 args) w := enters_of Try.func21 (by kernel_rfl) rfl
  obtain ⟨es0, hes, hap, hkeys⟩ := hown.entries K3
  rw [hes] at hown
  have hpost : encL (overL L now) = Lib.deleteFuncD (overD now) (.map es0) := by rw [← hes, enc_over]
  rw [hpost]
  have HD := Lib.hid (fun (W : World) (hW : w.grownBy W (some b)) (k : Value) (p hh u : Int) => closure_calls W k p hh u now bx g (hW.cell hbx (fun e => hb (by injection e))) (hW.cell hnow (fun e => hg (by injection e))))
  clear hes hpost hbx hnow
  go_enter Try.func20, Try.ntmps20
  go_wp2_with (first
    | (at_range; refine wpList_range_own _ rfl _ 49 rfl 3 38 K3 Try.underlying49 heldR b n _ rfl hown ?_; intro w0 hrg0 hg0 hs0)
    | go_in)
  go_frame
  go_loopw [8] (fun _ wr => ∃ (left : Lit → Bool) (cnt : Nat), wr.ranges Try.prog 3 heldR b w.heap.size n (Fk (overD now) es0 left) left cnt ∧ w.grownBy wr (some b))
    (fun _ wr => wr.rangeLeft b w.heap.size)
  case atStart => exact ⟨_, _, by rw [Fk_start hkeys]; exact hrg0, hg0.but _⟩
  case round =>
    obtain ⟨left, cnt, hrg, hgw⟩ := hrel
    go_wp2_with (first
      | (at_next; refine wpList_next_ranges _ rfl _ rfl 3 K3 heldR id id (fun key _ _ => ⟨key, rfl⟩) (fun v _ _ => ⟨v, rfl⟩) b w.heap.size n _ _ _ rfl hrg ?_ ?_)
      | go_in)
    · intro _ hl0
      go_wp2
      go_end0
      exact ⟨rfl, by rw [← Fk_end hl0]; exact hrg.owns, hgw⟩
    · intro x c kl yd yp w1 cnt1 hkey hlx hv hat hrg1 hlt hg1 hs1 hen
      obtain ⟨⟨p, hh, u⟩, hc, hy⟩ := heldR_inv hv
      have hc : c = .agg #[.int .i64 p, .int .u32 hh, .int .i64 u] := hc
      subst hc
      have hgw1 := hgw.andThen hg1 (fun j hj => by cases hj; exact Or.inl (Nat.le_refl _))
      have hbl := hrg1.owns.lt
      have hrl := hrg1.lt
      have hat' : ∀ zd, (Fk (overD now) es0 left).atKey kl zd = encD (p, hh, u) := fun zd => by rw [hat zd]; exact congrArg Prod.fst hy
      have hpd : overD now kl (encD (p, hh, u)) = decide (u ≤ now) := rfl
      go_upto_region 3 with fail
      obtain ⟨W2, hW2⟩ : ∃ X, w1.alloc (.cells #[.int .i64 p, .int .u32 hh, .int .i64 u] 38) = X := ⟨_, rfl⟩
      have hga : w1.grownBy W2 none := by rw [← hW2]; exact World.grownBy_alloc w1 _ none
      have hrg2 : W2.ranges Try.prog 3 heldR b w.heap.size n (Fk (overD now) es0 left) (fun z => left z && !z.sameKey kl) cnt1 := by rw [← hW2]; exact hrg1.alloc _
      have hgw2 := hgw1.andThen hga (fun j hj => by cases hj)
      have hcl := new_cellsN w1 38 #[.int .i64 p, .int .u32 hh, .int .i64 u]
      rw [hW2, hs1] at hcl
      obtain ⟨f0, f1, f2⟩ := held_cells (q := (p, hh, u)) hcl
      have hc := HD.out W2 hgw2 x p hh u
      rw [hW2]
      clear hW2 hcl
      by_cases hp : u ≤ now
      · rw [decide_eq_true hp] at hc hpd
        go_wp2_with (first
          | (go_at_fn 21; refine hc.mono ?_; rintro e w3 ⟨rfl, hg3⟩; have hrg3 := hrg2.kept hg3 (by simp) (by simp))
          | (at_delete; refine wpList_delete_ranges _ rfl _ _ 49 3 rfl 38 K3 Try.underlying49 heldR b w.heap.size n _ _ _ rfl hrg3 _ _ rfl hkey ?_; intro w4 cnt4 hrg4 hle hturn; go_frame)
          | go_in)
        rw [strike_twice] at hrg4
        go_roundw
        case rel => exact ⟨_, cnt4, by rw [← Fk_struck hap (K3.key hkey) hlx hpd hat']; exact hrg4, (hgw2.andThen hg3 (fun j hj => by cases hj)).andThen hturn.grown (fun j hj => by cases hj; exact Or.inr rfl)⟩
        case measure => rw [hrg4.left_eq, hrg.left_eq]; omega
      · rw [decide_eq_false hp] at hc hpd
        go_wp2_with (first
          | (go_at_fn 21; refine hc.mono ?_; rintro e w3 ⟨rfl, hg3⟩)
          | go_in)
        have hrg3 := hrg2.kept hg3 (by simp) (by simp)
        go_roundw
        case rel => exact ⟨_, cnt1, by rw [← Fk_stays hap (K3.key hkey) hlx hpd hat']; exact hrg3, hgw2.andThen hg3 (fun j hj => by cases hj)⟩
        case measure => rw [hrg3.left_eq, hrg.left_eq]; exact hlt
end Go.Proofs.Ytglpjoijkinlbaa.Rv
