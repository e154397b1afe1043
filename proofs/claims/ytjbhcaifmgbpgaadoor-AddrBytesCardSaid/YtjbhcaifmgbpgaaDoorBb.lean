/-
  addr: Compare; Less. Conditions: as the theorems state them.
-/
import Derived.Test.YtjbhcaifmgbpgaaDoorBa
import Derived.Test.YtjbhcaifmgbpgaaDoorAg
namespace Go.Proofs.YtjbhcaifmgbpgaaDoor.Ad
open Go Go.RowKit Go.Shelf Go.Proofs.YtjbhcaifmgbpgaaDoorW.PrintWords Go.Proofs.YtjbhcaifmgbpgaaDoorW.PrintLast Go.Proofs.YtjbhcaifmgbpgaaDoorW.PrintMore
set_option linter.unusedVariables false
set_option linter.unusedSimpArgs false
attribute [local go_sem] Oper.semAt_some
def SCm (W : World) (g1 g2 : Nat) (h1 p1 h2 p2 : Int) (V : World) : Prop := Below W.heap.size W V ∧ V.cell? ⟨g1, 0, none⟩ = some (.int .u32 h1) ∧ V.cell? ⟨g1, 1, none⟩ = some (.int .i64 p1) ∧ V.cell? ⟨g2, 0, none⟩ = some (.int .u32 h2) ∧ V.cell? ⟨g2, 1, none⟩ = some (.int .i64 p2)
theorem SCm.below {W : World} {g1 g2 : Nat} {h1 p1 h2 p2 : Int} {V V' : World} (hs : SCm W g1 g2 h1 p1 h2 p2 V) (hb : Below V.heap.size V V') : SCm W g1 g2 h1 p1 h2 p2 V' := by
  obtain ⟨q, q0, q1, q2, q3⟩ := hs
  have kk : ∀ {a : Addr} {x : Value}, V.cell? a = some x → V'.cell? a = some x := fun hx => (hb.cell (World.block_lt_of_cell? _ _ hx)).trans hx
  exact ⟨q.trans (hb.mono q.size), kk q0, kk q1, kk q2, kk q3⟩
set_option maxRecDepth 100000 in
set_option maxHeartbeats 4000000 in
theorem compare_calls (w : World) (h1 p1 h2 p2 : Int) : Calls Tryd.prog 21 #[.agg #[.int .u32 h1, .int .i64 p1], .agg #[.int .u32 h2, .int .i64 p2]] w fun e w' => e = .returned (.int .i64 (cmpA h1 p1 h2 p2)) ∧ Below w.heap.size w w' := by
  obtain ⟨W1, hW1⟩ : ∃ W, w.alloc (.cells #[.int .u32 h1, .int .i64 p1] 24) = W := ⟨_, rfl⟩
  have hb1 : Below w.heap.size w W1 := by rw [← hW1]; exact (Below.refl _ _).alloc (Nat.le_refl _) _
  have hs1 : W1.heap.size = w.heap.size + 1 := by rw [← hW1, World.size_alloc]
  have ha1 : AdAt W1 w.heap.size h1 p1 := by rw [← hW1]; exact ad_new _ _ _
  obtain ⟨W, hW⟩ : ∃ W, W1.alloc (.cells #[.int .u32 h2, .int .i64 p2] 24) = W := ⟨_, rfl⟩
  have hb2 : Below W1.heap.size W1 W := by rw [← hW]; exact (Below.refl _ _).alloc (Nat.le_refl _) _
  have ha2 : AdAt W (w.heap.size + 1) h2 p2 := by rw [← hW, ← hs1]; exact ad_new _ _ _
  have HB := Lib.hid (hb1.trans (hb2.mono hb1.size))
  have HA1 := Lib.hid (ha1.below hb2)
  have HA2 := Lib.hid ha2
  have K1 := Lib.hid cmp32_calls
  have K2 := Lib.hid cmp_int_calls
  have K3 := Lib.hid or_calls
  clear hb1 hb2 ha1 ha2
  go_enter Tryd.func21, Tryd.ntmps21
  go_upto_region 1 with fail
  obtain ⟨⟨c0, c1⟩, _⟩ := HA1.out.cells
  obtain ⟨⟨c2, c3⟩, _⟩ := HA2.out.cells
  obtain ⟨x, hx⟩ : ∃ x, Lib.compareInt h1 h2 = x := ⟨_, rfl⟩
  obtain ⟨y, hy⟩ : ∃ x, Lib.compareInt p1 p2 = x := ⟨_, rfl⟩
  have HX := Lib.hid (show cmpA h1 p1 h2 p2 = orI x y by unfold cmpA; rw [hx, hy])
  have Kx : Hid (∀ V, Calls Tryd.prog 33 #[.int .u32 h1, .int .u32 h2] V fun e w' => e = .returned (.int .i64 x) ∧ V = w') := Lib.hid (fun V => by have := K1.out V h1 h2; rwa [hx] at this)
  have Ky : Hid (∀ V, Calls Tryd.prog 34 #[.int .i64 p1, .int .i64 p2] V fun e w' => e = .returned (.int .i64 y) ∧ V = w') := Lib.hid (fun V => by have := K2.out V p1 p2; rwa [hy] at this)
  clear hx hy K1 K2 hW hW1 hs1
  have hS0 : SCm W w.heap.size (w.heap.size + 1) h1 p1 h2 p2 W.drew := ⟨drew_below W, c0, c1, c2, c3⟩
  clear c0 c1 c2 c3
  refine wp_region_held_drew (S := SCm W w.heap.size (w.heap.size + 1) h1 p1 h2 p2) (by kernel_rfl) ?_ (fun hHeld => ?_)
  · exact hS0
  refine wpAnyH_take (i := 0) (v := ?_) rfl (by kernel_rfl) (by kernel_rfl) (by kernel_rfl) (fun _ _ _ h => h) (Or.inl ⟨by rfl, ?_⟩) (by assumption) ?_
  rotate_left
  · (intro w hSw; unfold SCm at hSw; obtain ⟨_, q0, q1, q2, q3⟩ := hSw; go_simp; try with_reducible rfl)
  try simp only [Act.put, List.setIfInBounds_toArray, List.set_cons_zero, List.set_cons_succ, List.getElem_toArray, List.getElem_cons_succ, List.getElem_cons_zero]
  refine wpAnyH_take (i := 1) (v := ?_) rfl (by kernel_rfl) (by kernel_rfl) (by kernel_rfl) (fun _ _ _ h => h) (Or.inl ⟨by rfl, ?_⟩) (by assumption) ?_
  rotate_left
  · (intro w hSw; unfold SCm at hSw; obtain ⟨_, q0, q1, q2, q3⟩ := hSw; go_simp; try with_reducible rfl)
  try simp only [Act.put, List.setIfInBounds_toArray, List.set_cons_zero, List.set_cons_succ, List.getElem_toArray, List.getElem_cons_succ, List.getElem_cons_zero]
  refine wpAnyH_take (i := 2) (v := ?_) rfl (by kernel_rfl) (by kernel_rfl) (by kernel_rfl) (fun _ _ _ h => h) (Or.inl ⟨by rfl, ?_⟩) (by assumption) ?_
  rotate_left
  · (intro w hSw; unfold SCm at hSw; obtain ⟨_, q0, q1, q2, q3⟩ := hSw; go_simp; try with_reducible rfl)
  try simp only [Act.put, List.setIfInBounds_toArray, List.set_cons_zero, List.set_cons_succ, List.getElem_toArray, List.getElem_cons_succ, List.getElem_cons_zero]
  refine wpAnyH_take (i := 3) (v := ?_) rfl (by kernel_rfl) (by kernel_rfl) (by kernel_rfl) (fun _ _ _ h => h) (Or.inl ⟨by rfl, ?_⟩) (by assumption) ?_
  rotate_left
  · (intro w hSw; unfold SCm at hSw; obtain ⟨_, q0, q1, q2, q3⟩ := hSw; go_simp; try with_reducible rfl)
  try simp only [Act.put, List.setIfInBounds_toArray, List.set_cons_zero, List.set_cons_succ, List.getElem_toArray, List.getElem_cons_succ, List.getElem_cons_zero]
  refine wpAnyH_take (i := 5) (v := ?_) rfl (by kernel_rfl) (by kernel_rfl) (by kernel_rfl) (fun _ _ _ h => h) (Or.inl ⟨by rfl, ?_⟩) (by assumption) ?_
  rotate_left
  · (intro w hSw; unfold SCm at hSw; obtain ⟨_, q0, q1, q2, q3⟩ := hSw; go_simp; try with_reducible rfl)
  try simp only [Act.put, List.setIfInBounds_toArray, List.set_cons_zero, List.set_cons_succ, List.getElem_toArray, List.getElem_cons_succ, List.getElem_cons_zero]
  refine wpAnyH_take (i := 6) (v := ?_) rfl (by kernel_rfl) (by kernel_rfl) (by kernel_rfl) (fun _ _ _ h => h) (Or.inl ⟨by rfl, ?_⟩) (by assumption) ?_
  rotate_left
  · (intro w hSw; unfold SCm at hSw; obtain ⟨_, q0, q1, q2, q3⟩ := hSw; go_simp; try with_reducible rfl)
  try simp only [Act.put, List.setIfInBounds_toArray, List.set_cons_zero, List.set_cons_succ, List.getElem_toArray, List.getElem_cons_succ, List.getElem_cons_zero]
  refine wpAnyH_take (i := 7) (v := ?_) rfl (by kernel_rfl) (by kernel_rfl) (by kernel_rfl) (fun _ _ _ h => h) (Or.inl ⟨by rfl, ?_⟩) (by assumption) ?_
  rotate_left
  · (intro w hSw; unfold SCm at hSw; obtain ⟨_, q0, q1, q2, q3⟩ := hSw; go_simp; try with_reducible rfl)
  try simp only [Act.put, List.setIfInBounds_toArray, List.set_cons_zero, List.set_cons_succ, List.getElem_toArray, List.getElem_cons_succ, List.getElem_cons_zero]
  refine wpAnyH_take (i := 8) (v := ?_) rfl (by kernel_rfl) (by kernel_rfl) (by kernel_rfl) (fun _ _ _ h => h) (Or.inl ⟨by rfl, ?_⟩) (by assumption) ?_
  rotate_left
  · (intro w hSw; unfold SCm at hSw; obtain ⟨_, q0, q1, q2, q3⟩ := hSw; go_simp; try with_reducible rfl)
  try simp only [Act.put, List.setIfInBounds_toArray, List.set_cons_zero, List.set_cons_succ, List.getElem_toArray, List.getElem_cons_succ, List.getElem_cons_zero]
  refine wpAnyH_ready (rs := [4]) (by kernel_rfl) (by simp) ?_
  refine AllReadyH.cons rfl (fun K hK => ?_) AllReadyH.nil
  go_simp
  go_at_call 33; refine (Kx.out _).mono ?_; rintro e wn ⟨rfl, rfl⟩
  refine hK.out _ _ ?_ (fun hHeld => ?_)
  · exact hHeld
  clear hK K
  try simp only [Act.put, List.setIfInBounds_toArray, List.set_cons_zero, List.set_cons_succ, List.getElem_toArray, List.getElem_cons_succ, List.getElem_cons_zero]
  refine wpAnyH_ready (rs := [9]) (by kernel_rfl) (by simp) ?_
  refine AllReadyH.cons rfl (fun K hK => ?_) AllReadyH.nil
  go_simp
  go_at_call 34; refine (Ky.out _).mono ?_; rintro e wn ⟨rfl, rfl⟩
  refine hK.out _ _ ?_ (fun hHeld => ?_)
  · exact hHeld
  clear hK K
  try simp only [Act.put, List.setIfInBounds_toArray, List.set_cons_zero, List.set_cons_succ, List.getElem_toArray, List.getElem_cons_succ, List.getElem_cons_zero]
  refine wpAnyH_ready (rs := [10]) (by kernel_rfl) (by simp) ?_
  refine AllReadyH.cons rfl (fun K hK => ?_) AllReadyH.nil
  go_simp
  skip
  refine hK.out _ _ ?_ (fun hHeld => ?_)
  · exact hHeld.below ((Below.refl _ _).alloc (Nat.le_refl _) _)
  clear hK K
  try simp only [Act.put, List.setIfInBounds_toArray, List.set_cons_zero, List.set_cons_succ, List.getElem_toArray, List.getElem_cons_succ, List.getElem_cons_zero]
  refine wpAnyH_ready (rs := [11]) (by kernel_rfl) (by simp) ?_
  refine AllReadyH.cons rfl (fun K hK => ?_) AllReadyH.nil
  go_simp
  go_at_call 32; refine (K3.out _ _ x y (cell_cellsN (new_cellsN _ _ _) 0 (by simp)) (cell_cellsN (new_cellsN _ _ _) 1 (by simp))).mono ?_; rintro e wn ⟨rfl, rfl⟩
  refine hK.out _ _ ?_ (fun hHeld => ?_)
  · exact hHeld
  clear hK K
  try simp only [Act.put, List.setIfInBounds_toArray, List.set_cons_zero, List.set_cons_succ, List.getElem_toArray, List.getElem_cons_succ, List.getElem_cons_zero]
  refine wpAnyH_take (i := 12) (v := ?_) rfl (by kernel_rfl) (by kernel_rfl) (by kernel_rfl) (fun _ _ _ h => h) (Or.inl ⟨by rfl, ?_⟩) (by assumption) ?_
  rotate_left
  · (intro w hSw; unfold SCm at hSw; obtain ⟨_, q0, q1, q2, q3⟩ := hSw; go_simp; try with_reducible rfl)
  try simp only [Act.put, List.setIfInBounds_toArray, List.set_cons_zero, List.set_cons_succ, List.getElem_toArray, List.getElem_cons_succ, List.getElem_cons_zero]
  refine wpAnyH_done (by kernel_rfl) ?_ _
  dsimp only [Exit.then]
  go_wp2
  go_ret
  exact ⟨by rw [HX.out]; rfl, HB.out.trans (hHeld.1.mono HB.out.size)⟩
end Go.Proofs.YtjbhcaifmgbpgaaDoor.Ad
