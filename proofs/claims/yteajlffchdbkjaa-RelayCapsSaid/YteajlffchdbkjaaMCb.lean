/-
  circ: a table, where it lies; the time goes on. Conditions: as the theorems state them.
  circ: where a circuit stands; all of them; a new table. Conditions: as the theorems state them.
  circ: Close; a circuit's cell written; plain: Forward. Conditions: as the theorems state them.
  circ: a circuit's cell written; plain: Forward. Conditions: as the theorems state them.
  circ: Forward. Conditions: as the theorem states them.
  circ: a new table; may it be a peer's? Conditions: as the theorems state them.
  circ: Open. Conditions: as the theorem states them.
-/
import Derived.Test.YteajlffchdbkjaaMCa
import Derived.Test.YteajlffchdbkjaaMRc
import Derived.Shelf.SlicesE.DeleteFunc
import Derived.Deep.QuietTactic
import Derived.BigQuiet
import Derived.IntWalk
namespace Go.Proofs.Yteajlffchdbkjaa.Ci
open Go.RowKit Go.Maps Go.Shelf Go.Proofs.Yteajlffchdbkjaa.Rv Go.Proofs.YteajlffchdbkjaaW.PrintWords Go.Proofs.YteajlffchdbkjaaW.PrintLast Go.Proofs.YteajlffchdbkjaaW.PrintMore
set_option linter.unusedVariables false
set_option linter.unusedSimpArgs false
attribute [local go_sem] Oper.semAt_some max2_int min2_int max_two min_two
def cirT (l : LimV) (vl vg : Value) (last now : Int) : Array Value := #[.int .i64 l.1, .int .i64 l.2.1, .int .i64 l.2.2.1, .int .i64 l.2.2.2.1, .int .i64 l.2.2.2.2.1, .int .i64 l.2.2.2.2.2, vl, vg, .int .i64 last, .int .i64 now]
structure CirAt (W : World) (g : Nat) (vl vg : Value) (l : LimV) (L G : List CirP) (last now : Int) : Prop where
  cells : W.heap[g]? = some (.cells (cirT l vl vg last now) 103 (0, 0))
  lown : W.ownsRow 0 50 6 vl L.length (flatC L)
  gown : W.ownsRow 0 50 6 vg G.length (flatC G)
  sep : ∀ k, vl.ownBlock = some k → vg.ownBlock ≠ some k
def okC (g : Nat) (vl vg : Value) (k : Nat) : Prop := k = g ∨ vl.ownBlock = some k ∨ vg.ownBlock = some k
/-- The new blocks are old ones, or fresh. -/
def NewO (W : World) (g : Nat) (vl vg vl' vg' : Value) : Prop := ∀ k, okC g vl' vg' k → okC g vl vg k ∨ W.heap.size ≤ k
theorem NewO.refl (W : World) (g : Nat) (vl vg : Value) : NewO W g vl vg vl vg := fun _ h => .inl h
theorem NewO.trans {W X : World} {g : Nat} {vl vg vl' vg' vl2 vg2 : Value} (h : NewO W g vl vg vl' vg') (k : NewO X g vl' vg' vl2 vg2) (hs : W.heap.size ≤ X.heap.size) : NewO W g vl vg vl2 vg2 := fun b hb => by
  rcases k b hb with e | e
  · exact h b e
  · exact .inr (Nat.le_trans hs e)
theorem CirAt.lt {W : World} {g : Nat} {vl vg : Value} {l : LimV} {L G : List CirP} {last now : Int} (h : CirAt W g vl vg l L G last now) : ∀ k, okC g vl vg k → k < W.heap.size := by
  rintro k (rfl | e | e)
  · exact (Array.getElem?_eq_some_iff.1 h.cells).1
  · exact own_lt h.lown e
  · exact own_lt h.gown e
theorem CirAt.step {W X : World} {g : Nat} {vl vg : Value} {l : LimV} {L G : List CirP} {last now : Int} (h : CirAt W g vl vg l L G last now) (hb : ∀ k, okC g vl vg k → k < W.heap.size → X.heap[k]? = W.heap[k]?) : CirAt X g vl vg l L G last now :=
  ⟨(hb g (.inl rfl) (h.lt g (.inl rfl))).trans h.cells, own_stays h.lown (fun k hk => hb k (.inr (.inl hk)) (own_lt h.lown hk)), own_stays h.gown (fun k hk => hb k (.inr (.inr hk)) (own_lt h.gown hk)), h.sep⟩
theorem CirAt.below {W X : World} {g : Nat} {vl vg : Value} {l : LimV} {L G : List CirP} {last now : Int} (h : CirAt W g vl vg l L G last now) (hb : Below W.heap.size W X) : CirAt X g vl vg l L G last now := h.step (fun k _ hk => hb.block k hk)
theorem CirAt.kp {W X : World} {g : Nat} {vl vg : Value} {l : LimV} {L G : List CirP} {last now : Int} (h : CirAt W g vl vg l L G last now) {ok : Nat → Prop} (hb : Kp ok W X) (hn : ∀ k, okC g vl vg k → ¬ ok k) : CirAt X g vl vg l L G last now := h.step (fun k hk hl => hb.2.2.2.2 k hl (hn k hk))
/-- A block typed otherwise is no row's, and not the table's. -/
theorem CirAt.off {W : World} {g : Nat} {vl vg : Value} {l : LimV} {L G : List CirP} {last now : Int} (h : CirAt W g vl vg l L G last now) {k : Nat} {cs : Array Value} {t : TypeId} (hk : W.heap[k]? = some (.cells cs t (0, 0))) (h1 : t ≠ 103) (h2 : t ≠ 50) : ¬ okC g vl vg k := by
  rintro (rfl | e | e)
  · rw [h.cells] at hk; injection hk with hk; injection hk with _ hk; exact h1 hk.symm
  · obtain ⟨c, hc⟩ := own_typed h.lown k e; rw [hk] at hc; injection hc with hc; injection hc with _ hc; exact h2 hc
  · obtain ⟨c, hc⟩ := own_typed h.gown k e; rw [hk] at hc; injection hc with hc; injection hc with _ hc; exact h2 hc
theorem CirAt.ne {W : World} {g : Nat} {vl vg : Value} {l : LimV} {L G : List CirP} {last now : Int} (h : CirAt W g vl vg l L G last now) : vl.ownBlock ≠ some g ∧ vg.ownBlock ≠ some g := by
  refine ⟨fun e => ?_, fun e => ?_⟩
  · obtain ⟨c, hc⟩ := own_typed h.lown g e; have h1 := h.cells; rw [hc] at h1; injection h1 with h1; injection h1 with _ h1; exact absurd h1 (by decide)
  · obtain ⟨c, hc⟩ := own_typed h.gown g e; have h1 := h.cells; rw [hc] at h1; injection h1 with h1; injection h1 with _ h1; exact absurd h1 (by decide)
theorem cirT_cells {V : World} {g : Nat} {vl vg : Value} {l : LimV} {last now : Int} (h : V.heap[g]? = some (.cells (cirT l vl vg last now) 103 (0, 0))) : V.cell? ⟨g, 2, none⟩ = some (.int .i64 l.2.2.1) ∧ V.cell? ⟨g, 4, none⟩ = some (.int .i64 l.2.2.2.2.1) ∧ V.cell? ⟨g, 5, none⟩ = some (.int .i64 l.2.2.2.2.2) ∧ V.cell? ⟨g, 6, none⟩ = some vl ∧ V.cell? ⟨g, 8, none⟩ = some (.int .i64 last) ∧ V.cell? ⟨g, 9, none⟩ = some (.int .i64 now) :=
  ⟨cell_cellsN h 2 (by simp [cirT]), cell_cellsN h 4 (by simp [cirT]), cell_cellsN h 5 (by simp [cirT]), cell_cellsN h 6 (by simp [cirT]), cell_cellsN h 8 (by simp [cirT]), cell_cellsN h 9 (by simp [cirT])⟩
theorem drew_below (w : World) : Below w.heap.size w w.drew := ⟨rfl, rfl, rfl, Nat.le_refl _, fun _ _ => rfl⟩
theorem gone_st {W : World} {tb g : Nat} {vl vg : Value} {l : LimV} {L G : List CirP} {last now : Int} (h : CirAt W g vl vg l L G last now) (htb : W.heap[tb]? = some (.cells #[.pointer (some ⟨g, 0, none⟩)] 73 (0, 0))) : GoneSt W tb g now (cirT l vl vg last now) vg G := ⟨htb, h.cells, rfl, rfl, rfl, h.gown⟩
theorem cirT_gone (l : LimV) (vl vg v1 : Value) (last now : Int) : (cirT l vl vg last now).setIfInBounds 7 v1 = cirT l vl v1 last now := rfl
theorem cirT_list (l : LimV) (vl vg v1 : Value) (last now : Int) : (cirT l vl vg last now).setIfInBounds 6 v1 = cirT l v1 vg last now := rfl
theorem cirT_now (l : LimV) (vl vg : Value) (last now now1 : Int) : (cirT l vl vg last now).setIfInBounds 9 (.int .i64 now1) = cirT l vl vg last now1 := rfl
theorem cirT_last (l : LimV) (vl vg : Value) (last last1 now : Int) : (cirT l vl vg last now).setIfInBounds 8 (.int .i64 last1) = cirT l vl vg last1 now := rfl
/-- The table's own cell is written. -/
theorem CirAt.set {W : World} {g : Nat} {vl vg vl' : Value} {l : LimV} {L L' G : List CirP} {last now last' now' : Int} (h : CirAt W g vl vg l L G last now) (j : Nat) (z : Value) (hc : (cirT l vl vg last now).setIfInBounds j z = cirT l vl' vg last' now') (hl : W.ownsRow 0 50 6 vl' L'.length (flatC L')) (hs : ∀ k, vl'.ownBlock = some k → vg.ownBlock ≠ some k) (hg : vl'.ownBlock ≠ some g) : CirAt (W.setCell ⟨g, j, none⟩ z) g vl' vg l L' G last' now' := by
  have hne := h.ne
  refine ⟨set_cellsN j h.cells hc, own_stays hl (fun k hk => Below.heap_setCell _ _ _ _ (fun e => hg (by rw [hk, e]))), own_stays h.gown (fun k hk => Below.heap_setCell _ _ _ _ (fun e => hne.2 (by rw [hk, e]))), hs⟩
def OnPost (W : World) (g : Nat) (vl vg : Value) (l : LimV) (L G : List CirP) (last T : Int) (w' : World) : Prop :=
  ∃ vl' vg', CirAt w' g vl' vg' l (liveC L T) (G ++ goneC L T) last T ∧ NewO W g vl vg vl' vg' ∧ Kp (okC g vl vg) W w'
theorem on_done {W Y w3 : World} {tb g : Nat} {vl vg vl' v1 : Value} {l : LimV} {L G : List CirP} {last T : Int} (hWY : Kp (okC g vl vg) W Y) (hY : CirAt Y g vl vg l L G last T) (hs : ∀ k, okC g vl vg k → k < W.heap.size)
    (h : GoneSt w3 tb g T ((cirT l vl vg last T).setIfInBounds 7 v1) v1 (G ++ goneC L T) ∧ NewB Y vg v1 ∧ w3.ownsRow 0 50 6 vl' (liveC L T).length (flatC (liveC L T)) ∧ vl'.ownBlock = vl.ownBlock ∧ Kp (fun b => okG g vg b ∨ vl.ownBlock = some b) Y w3) :
    OnPost W g vl vg l L G last T (w3.setCell ⟨g, 6, none⟩ vl') := by
  obtain ⟨h1, h2, h3, h4, h5⟩ := h
  have hsep : ∀ k, vl.ownBlock = some k → v1.ownBlock ≠ some k := fun k hk e => by
    rcases h2 with h2 | ⟨b, h2, h6⟩
    · exact hY.sep k hk (h2 ▸ e)
    · rw [h2] at e; injection e with e; have := hY.lt k (.inr (.inl hk)); omega
  have hne := hY.ne
  refine ⟨vl', v1, ⟨set_cellsN 6 h1.g (by rw [cirT_gone, cirT_list]), own_stays h3 (fun k hk => Below.heap_setCell _ _ _ _ (fun e => hne.1 (by rw [← h4, hk, e]))), own_stays h1.own (fun k hk => Below.heap_setCell _ _ _ _ (fun e => h1.ne.2.2 (by rw [hk, e]))), fun k hk => hsep k (by rw [← h4]; exact hk)⟩, ?_, ?_⟩
  · rintro k (e | e | e)
    · exact .inl (.inl e)
    · exact .inl (.inr (.inl (by rw [← h4]; exact e)))
    · rcases h2 with h2 | ⟨b, h2, h6⟩
      · exact .inl (.inr (.inr (h2 ▸ e)))
      · rw [h2] at e; injection e with e; exact .inr (by have := hWY.2.2.2.1; omega)
  · have h6 : Kp (okC g vl vg) Y w3 := h5.mono (fun b _ e => by
      rcases e with (e | e) | e
      · exact .inl e
      · exact .inr (.inr e)
      · exact .inr (.inl e))
    exact (hWY.trans h6).set (p := ⟨g, 6, none⟩) (.inl rfl) _
set_option maxRecDepth 100000 in
set_option maxHeartbeats 4000000 in
theorem con_calls (W : World) (g : Nat) (vl vg : Value) (l : LimV) (L G : List CirP) (last now t : Int) (h : CirAt W g vl vg l L G last now) (hl : (G.length + L.length + 1) * 48 ≤ 140737488355328) (hm : L.length ≤ 1000000) :
    Calls Try.prog 55 #[.pointer (some ⟨g, 0, none⟩), .int .i64 t] W fun e w' => e = .returned (.tuple #[]) ∧ OnPost W g vl vg l L G last (onT now t) w' := by
  have hlt := h.lt
  obtain ⟨X, hX⟩ : ∃ X, W.alloc (.cells #[.pointer (some ⟨g, 0, none⟩)] 73) = X := ⟨_, rfl⟩
  have hbX : Below W.heap.size W X := by rw [← hX]; exact (Below.refl _ _).alloc (Nat.le_refl _) _
  have htX : X.heap[W.heap.size]? = some (.cells #[.pointer (some ⟨g, 0, none⟩)] 73 (0, 0)) := by rw [← hX]; exact new_cellsN W _ _
  have hT := h.below hbX
  obtain ⟨c2, c4, c5, c6, c8, c9⟩ := cirT_cells hT.cells
  have hfz := frozen_cellsN hT.cells 9
  have hbx : X.cell? ⟨W.heap.size, 0, none⟩ = some (.pointer (some ⟨g, 0, none⟩)) := cell_cellsN htX 0 (Nat.zero_lt_succ 0)
  obtain ⟨m, hm2⟩ : ∃ m, (if 1099511627776 < t then 1099511627776 else t) = m := ⟨_, rfl⟩
  obtain ⟨T, hTn⟩ : ∃ T, (if now < m then m else now) = T := ⟨_, rfl⟩
  have hon : onT now t = T := by unfold onT capT; rw [hm2]; exact hTn
  rw [hon]
  have HT := Lib.hid hT
  have HBX := Lib.hid hbX
  have HTX := Lib.hid htX
  have HB := Lib.hid hl
  have HM := Lib.hid hm
  have HLT := Lib.hid hlt
  have HNE := Lib.hid (show g ≠ W.heap.size from Nat.ne_of_lt (hlt g (.inl rfl)))
  clear h hbX htX hT hl hm hlt hon
  go_enter Try.func55, Try.ntmps55
  go_upto_region 1 with fail
  clear hX
  go_region
  go_upto_region 2 with fail
  obtain ⟨Y, hY⟩ : ∃ Y, (X.setCell ⟨g, 9, none⟩ (.int .i64 T)).drew = Y := ⟨_, rfl⟩
  have HKY := Lib.hid (show Kp (okC g vl vg) W Y by rw [← hY]; exact ((Kp.below HBX.out).set (.inl rfl) _).drew)
  have HCY := Lib.hid (show CirAt Y g vl vg l L G last T by
    rw [← hY]
    exact (HT.out.set (L' := L) 9 (.int .i64 T) (cirT_now _ _ _ _ _ _) HT.out.lown HT.out.sep HT.out.ne.1).below (drew_below _))
  have HTY := Lib.hid (show Y.heap[W.heap.size]? = some (.cells #[.pointer (some ⟨g, 0, none⟩)] 73 (0, 0)) by
    rw [← hY]
    exact (Below.heap_setCell X ⟨g, 9, none⟩ _ _ (Ne.symm HNE.out)).trans HTX.out)
  have HGY := Lib.hid (gone_st HCY.out HTY.out)
  have e1 : Y.cell? ⟨W.heap.size, 0, none⟩ = some (.pointer (some ⟨g, 0, none⟩)) := cell_cellsN HTY.out 0 (Nat.zero_lt_succ 0)
  have e6 : Y.drew.cell? ⟨g, 6, none⟩ = some vl := cell_cellsN HCY.out.cells 6 (by simp [cirT])
  rw [hY]
  clear hY c2 c4 c5 c6 c8 c9 hfz hbx hm2 hTn
  refine wp_region_held_drew (S := fun w' => w'.cell? ⟨W.heap.size, 0, none⟩ = some (.pointer (some ⟨g, 0, none⟩))) (by kernel_rfl) ?_ (fun hHeld => ?_)
  · exact e1
  refine wpAnyH_take (i := 0) (v := ?_) rfl (by kernel_rfl) (by kernel_rfl) (by kernel_rfl) (fun _ _ _ h => h) (Or.inl ⟨by rfl, ?_⟩) (by assumption) ?_
  rotate_left
  · (intro w hSw; (try dsimp only at hSw); go_simp; try with_reducible rfl)
  try simp only [Act.put, List.setIfInBounds_toArray, List.set_cons_zero, List.set_cons_succ, List.getElem_toArray, List.getElem_cons_succ, List.getElem_cons_zero]
  refine wpAnyH_take (i := 1) (v := ?_) rfl (by kernel_rfl) (by kernel_rfl) (by kernel_rfl) (fun _ _ _ h => h) (Or.inl ⟨by rfl, ?_⟩) (by assumption) ?_
  rotate_left
  · (intro w hSw; (try dsimp only at hSw); go_simp; try with_reducible rfl)
  try simp only [Act.put, List.setIfInBounds_toArray, List.set_cons_zero, List.set_cons_succ, List.getElem_toArray, List.getElem_cons_succ, List.getElem_cons_zero]
  refine wpAnyH_take (i := 2) (v := ?_) rfl (by kernel_rfl) (by kernel_rfl) (by kernel_rfl) (fun _ _ _ h => h) (Or.inl ⟨by rfl, ?_⟩) (by assumption) ?_
  rotate_left
  · (intro w hSw; (try dsimp only at hSw); go_simp; try with_reducible rfl)
  try simp only [Act.put, List.setIfInBounds_toArray, List.set_cons_zero, List.set_cons_succ, List.getElem_toArray, List.getElem_cons_succ, List.getElem_cons_zero]
  refine wpAnyH_take (i := 3) (v := ?_) rfl (by kernel_rfl) (by kernel_rfl) (by kernel_rfl) (fun _ _ _ h => h) (Or.inl ⟨by rfl, ?_⟩) (by assumption) ?_
  rotate_left
  · (intro w hSw; (try dsimp only at hSw); go_simp; try with_reducible rfl)
  try simp only [Act.put, List.setIfInBounds_toArray, List.set_cons_zero, List.set_cons_succ, List.getElem_toArray, List.getElem_cons_succ, List.getElem_cons_zero]
  refine wpAnyH_take (i := 5) (v := ?_) rfl (by kernel_rfl) (by kernel_rfl) (by kernel_rfl) (fun _ _ _ h => h) (Or.inl ⟨by rfl, ?_⟩) (by assumption) ?_
  rotate_left
  · (intro w hSw; (try dsimp only at hSw); go_simp; try with_reducible rfl)
  try simp only [Act.put, List.setIfInBounds_toArray, List.set_cons_zero, List.set_cons_succ, List.getElem_toArray, List.getElem_cons_succ, List.getElem_cons_zero]
  refine wpAnyH_ready (rs := [4]) (by kernel_rfl) (by simp) ?_
  refine AllReadyH.cons rfl (fun K hK => ?_) AllReadyH.nil
  go_simp
  skip
  refine hK.out _ _ ?_ (fun hHeld => ?_)
  · exact hHeld
  clear hK K
  try simp only [Act.put, List.setIfInBounds_toArray, List.set_cons_zero, List.set_cons_succ, List.getElem_toArray, List.getElem_cons_succ, List.getElem_cons_zero]
  refine wpAnyH_ready (rs := [6]) (by kernel_rfl) (by simp) ?_
  refine AllReadyH.cons rfl (fun K hK => ?_) AllReadyH.nil
  go_simp
  go_at_call 75; refine (delfC_calls Y.drew W.heap.size g T _ vg vl G L (HGY.out.below (drew_below _)) HCY.out.lown HCY.out.sep HB.out HM.out).mono ?_; rintro e w3 ⟨vl', v1, rfl, hx3⟩; obtain ⟨AA, cc, rfl, _⟩ := row_at hx3.2.2.1; have HX3 := Lib.hid hx3; have s1 := cell_cellsN hx3.1.tb 0 (Nat.zero_lt_succ 0); have s2 : w3.cell? ⟨g, 6, none⟩ = some vl := cell_cellsN hx3.1.g 6 (by simp [cirT]); have s3 := frozen_cellsN hx3.1.g 6; clear hx3
  refine hK.out _ _ ?_ (fun hHeld => ?_)
  · exact s1
  clear hK K
  try simp only [Act.put, List.setIfInBounds_toArray, List.set_cons_zero, List.set_cons_succ, List.getElem_toArray, List.getElem_cons_succ, List.getElem_cons_zero]
  refine wpAnyH_take (i := 7) (v := ?_) rfl (by kernel_rfl) (by kernel_rfl) (by kernel_rfl) (fun _ _ _ h => h) (Or.inl ⟨by rfl, ?_⟩) (by assumption) ?_
  rotate_left
  · (intro w hSw; (try dsimp only at hSw); go_simp; try with_reducible rfl)
  try simp only [Act.put, List.setIfInBounds_toArray, List.set_cons_zero, List.set_cons_succ, List.getElem_toArray, List.getElem_cons_succ, List.getElem_cons_zero]
  refine wpAnyH_take (i := 8) (v := ?_) rfl (by kernel_rfl) (by kernel_rfl) (by kernel_rfl) (fun _ _ _ h => h) (Or.inl ⟨by rfl, ?_⟩) (by assumption) ?_
  rotate_left
  · (intro w hSw; (try dsimp only at hSw); go_simp; try with_reducible rfl)
  try simp only [Act.put, List.setIfInBounds_toArray, List.set_cons_zero, List.set_cons_succ, List.getElem_toArray, List.getElem_cons_succ, List.getElem_cons_zero]
  refine wpAnyH_ready (rs := [9]) (by kernel_rfl) (by simp) ?_
  refine AllReadyH.cons rfl (fun K hK => ?_) AllReadyH.nil
  go_simp
  skip
  refine hK.out _ _ ?_ (fun hHeld => ?_)
  · exact (World.cell?_setCell_far _ _ _ _ (by show g ≠ W.heap.size; exact HNE.out)).trans hHeld
  clear hK K
  try simp only [Act.put, List.setIfInBounds_toArray, List.set_cons_zero, List.set_cons_succ, List.getElem_toArray, List.getElem_cons_succ, List.getElem_cons_zero]
  refine wpAnyH_done (by kernel_rfl) ?_ _
  go_wp2
  go_end0
  refine ⟨rfl, on_done (HKY.out.trans (Kp.below (drew_below _))) (HCY.out.below (drew_below _)) HLT.out HX3.out⟩
end Go.Proofs.Yteajlffchdbkjaa.Ci
namespace Go.Proofs.Yteajlffchdbkjaa.Ci
open Go.RowKit Go.Maps Go.Shelf Go.Proofs.Yteajlffchdbkjaa.Rv Go.Proofs.YteajlffchdbkjaaW.PrintWords Go.Proofs.YteajlffchdbkjaaW.PrintLast Go.Proofs.YteajlffchdbkjaaW.PrintMore
set_option linter.unusedVariables false
set_option linter.unusedSimpArgs false
attribute [local go_sem] Oper.semAt_some
def posC (L : List CirP) (no : Int) : Int := Lib.idxBy (fun (_ : CirP) (y : CirP) => y.1 == no) L default
theorem posC_spec (L : List CirP) (no : Int) : (posC L no = -1 ∧ ∀ c ∈ L, c.1 ≠ no) ∨ ∃ k, ∃ hk : k < L.length, posC L no = k ∧ L[k].1 = no ∧ ∀ j (hj : j < k), (L[j]'(by omega)).1 ≠ no := by
  rcases idxByFrom_spec (fun (_ : CirP) (y : CirP) => y.1 == no) default L 0 with ⟨e, h⟩ | ⟨k, hk, e, h1, h2⟩
  · refine .inl ⟨e, fun c hc => ?_⟩
    obtain ⟨i, hi, rfl⟩ := List.getElem_of_mem hc
    have := h i hi
    rw [getElem!_pos L i hi] at this
    simpa using this
  · refine .inr ⟨k, hk, by unfold posC Lib.idxBy; rw [e, Nat.zero_add], ?_, fun j hj => ?_⟩
    · rw [getElem!_pos L k hk] at h1; simpa using h1
    · have := h2 j hj
      rw [getElem!_pos L j (by omega)] at this
      simpa using this
set_option maxRecDepth 100000 in
set_option maxHeartbeats 2000000 in
theorem index_zero (w : World) (A : Option Addr) (c f : Nat) (lb : Array Value) : Calls Try.prog 77 #[.slice A 0 c, .func (.func f) #[] lb] w fun e w' => e = .returned (.int .i64 (-1)) ∧ w = w' := by
  go_enter Try.func77, Try.ntmps77
  go_wp2
  go_loopw [8] (fun v8 wr => v8 = .int .i64 0 ∧ wr = w) (fun _ _ => 0)
  case atStart => exact ⟨rfl, rfl⟩
  case round =>
    obtain ⟨rfl, rfl⟩ := hrel
    go_wp2
    go_ret
    exact ⟨rfl, rfl⟩
set_option maxRecDepth 100000 in
set_option maxHeartbeats 2000000 in
theorem contains_zero (w : World) (A : Option Addr) (c f : Nat) (lb : Array Value) : Calls Try.prog 57 #[.slice A 0 c, .func (.func f) #[] lb] w fun e w' => e = .returned (.bool false) ∧ w = w' := by
  go_enter Try.func57, Try.ntmps57
  go_wp2_with (go_at_call 77; refine (index_zero _ _ _ _ _).mono ?_; rintro e w' ⟨rfl, rfl⟩)
  go_ret
  exact ⟨rfl, rfl⟩
theorem placeIn_any (bn : Nat) (no : Int) (A : Option Addr) (c : Nat) (L : List CirP) (w : World) (hb : w.cell? ⟨bn, 0, none⟩ = some (.int .i64 no)) (hl : L.length ≤ 1000000) (hR : RowAt w A L (fun _ => True)) :
    Calls Try.prog 77 #[.slice A L.length c, .func (.func 78) #[] #[.pointer (some ⟨bn, 0, none⟩)]] w fun e w' => e = .returned (.int .i64 (posC L no)) ∧ Below w.heap.size w w' := by
  rcases hR with h0 | ⟨gr, rfl, _, h1, h2⟩
  · rw [h0]
    refine (index_zero w A c _ _).mono ?_
    rintro e w' ⟨rfl, rfl⟩
    rw [List.length_eq_zero_iff.1 h0]
    exact ⟨rfl, Below.refl _ _⟩
  · exact placeIn_calls bn no gr c L w hb (Nat.le_trans hl (by decide)) h1 (fun i hi j hj => h2 w rfl i hi j hj)
theorem openIn_any (ba bb : Nat) (a b : Int) (A : Option Addr) (c : Nat) (L : List CirP) (w : World) (ha : w.cell? ⟨ba, 0, none⟩ = some (.int .i64 a)) (hb : w.cell? ⟨bb, 0, none⟩ = some (.int .i64 b)) (hl : L.length ≤ 1000000) (hR : RowAt w A L (fun _ => True)) :
    Calls Try.prog 57 #[.slice A L.length c, .func (.func 56) #[] #[.pointer (some ⟨ba, 0, none⟩), .pointer (some ⟨bb, 0, none⟩)]] w fun e w' => e = .returned (.bool (L.any (isBetween a b))) ∧ Below w.heap.size w w' := by
  rcases hR with h0 | ⟨gr, rfl, _, h1, h2⟩
  · rw [h0]
    refine (contains_zero w A c _ _).mono ?_
    rintro e w' ⟨rfl, rfl⟩
    rw [List.length_eq_zero_iff.1 h0]
    exact ⟨rfl, Below.refl _ _⟩
  · exact openIn_calls ba bb a b gr c L w ha hb (Nat.le_trans hl (by decide)) h1 (fun i hi j hj => h2 w rfl i hi j hj)
set_option maxRecDepth 100000 in
set_option maxHeartbeats 2000000 in
theorem clone_nil (w : World) : Calls Try.prog 65 #[.slice none 0 0] w fun e w' => e = .returned (.slice none 0 0) ∧ w = w' := by
  have h1 := Lib.run_eql_slice_nil w 45 50 none 0 0 0 0 Try.underlying45
  go_enter Try.func65, Try.ntmps65
  go_wp2
  go_ret
  exact ⟨rfl, rfl⟩
theorem clone_any (v : Value) (L : List CirP) (w : World) (hl : L.length ≤ 1000000) (HL : w.ownsRow 0 50 6 v L.length (flatC L)) :
    Calls Try.prog 65 #[v] w fun e w' => ∃ v', e = .returned v' ∧ w'.ownsRow w.heap.size 50 6 v' L.length (flatC L) ∧ Below w.heap.size w w' := by
  obtain ⟨h0, ⟨h1, h2⟩ | ⟨gr, cap, cur, h1, h2, h3, h4, h5, h6, h7⟩⟩ := HL
  · rw [h1]
    refine (clone_nil w).mono ?_
    rintro e w' ⟨rfl, rfl⟩
    exact ⟨_, rfl, ⟨h0, .inl ⟨rfl, h2⟩⟩, Below.refl _ _⟩
  · rw [h1]
    refine (clone_calls gr cap L w (by omega) (fun j u hu => ?_)).mono (fun e w' ⟨v', a, b, _, d⟩ => ⟨v', a, b, d⟩)
    have hj : j < (flatC L).length := (List.getElem?_eq_some_iff.1 hu).1
    rw [← h7, List.getElem?_take_of_lt (by omega), Array.getElem?_toList] at hu
    unfold World.cell?
    dsimp only
    rw [h3]
    have : j < cur.size := (Array.getElem?_eq_some_iff.1 hu).1
    simp only [this, ↓reduceIte]
    exact hu
set_option maxRecDepth 100000 in
set_option maxHeartbeats 2000000 in
theorem place_calls (W : World) (g : Nat) (vl vg : Value) (l : LimV) (L G : List CirP) (last now no : Int) (h : CirAt W g vl vg l L G last now) (hm : L.length ≤ 1000000) :
    Calls Try.prog 58 #[.pointer (some ⟨g, 0, none⟩), .int .i64 no] W fun e w' => e = .returned (.int .i64 (posC L no)) ∧ Below W.heap.size W w' := by
  obtain ⟨X, hX⟩ : ∃ X, W.alloc (.cells #[.int .i64 no] 3) = X := ⟨_, rfl⟩
  have hbX : Below W.heap.size W X := by rw [← hX]; exact (Below.refl _ _).alloc (Nat.le_refl _) _
  have hbx : X.cell? ⟨W.heap.size, 0, none⟩ = some (.int .i64 no) := by rw [← hX]; exact cell_cellsN (new_cellsN W 3 #[.int .i64 no]) 0 (Nat.zero_lt_succ 0)
  have hT := h.below hbX
  obtain ⟨A, c, rfl, hra⟩ := row_at hT.lown
  obtain ⟨c2, c4, c5, c6, c8, c9⟩ := cirT_cells hT.cells
  have K := Lib.hid (placeIn_any W.heap.size no A c L X hbx hm hra.any)
  have HB := Lib.hid hbX
  obtain ⟨p, hp⟩ : ∃ p, posC L no = p := ⟨_, rfl⟩
  obtain ⟨m, hm2⟩ : ∃ m, L.length = m := ⟨_, rfl⟩
  rw [hp] at K ⊢
  rw [hm2] at K c6
  clear h hbX hbx hT hra hm hp hm2 c2 c4 c5 c8 c9
  go_enter Try.func58, Try.ntmps58
  go_upto_region 1 with fail
  clear hX
  go_wp2_with (go_at_call 77; refine K.out.mono ?_; rintro e w' ⟨rfl, hb⟩; have HB2 := Lib.hid hb; clear hb)
  go_ret
  exact ⟨rfl, HB.out.trans (HB2.out.mono HB.out.size)⟩
def AllPost (W : World) (g : Nat) (vl vg : Value) (l : LimV) (L G : List CirP) (last T : Int) (e : Ending) (w' : World) : Prop :=
  ∃ v vl' vg' s, e = .returned v ∧ CirAt w' g vl' vg' l (liveC L T) (G ++ goneC L T) last T ∧ NewO W g vl vg vl' vg' ∧ (∀ k, okC g vl' vg' k → k < s) ∧ W.heap.size ≤ s ∧ w'.ownsRow s 50 6 v (liveC L T).length (flatC (liveC L T)) ∧ Kp (okC g vl vg) W w'
set_option maxRecDepth 100000 in
set_option maxHeartbeats 2000000 in
theorem call_calls (W : World) (g : Nat) (vl vg : Value) (l : LimV) (L G : List CirP) (last now t : Int) (h : CirAt W g vl vg l L G last now) (hl : (G.length + L.length + 1) * 48 ≤ 140737488355328) (hm : L.length ≤ 1000000) :
    Calls Try.prog 37 #[.pointer (some ⟨g, 0, none⟩), .int .i64 t] W (AllPost W g vl vg l L G last (onT now t)) := by
  have K := Lib.hid (con_calls W g vl vg l L G last now t h hl hm)
  obtain ⟨T, hT⟩ : ∃ T, onT now t = T := ⟨_, rfl⟩
  rw [hT] at K ⊢
  have HM := Lib.hid (show (liveC L T).length ≤ 1000000 from Nat.le_trans (List.length_filter_le _ _) hm)
  clear h hl hm hT
  go_enter Try.func37, Try.ntmps37
  go_upto_region 2 with (go_at_call 55; refine K.out.mono ?_; rintro e w1 ⟨rfl, hx⟩; have HX := Lib.hid hx; clear hx)
  obtain ⟨vl', vg', h1, h2, h3⟩ := HX.out
  have K2 := Lib.hid (clone_any vl' (liveC L T) w1 HM.out h1.lown)
  have HC := Lib.hid h1
  have H2 := Lib.hid h2
  have H3 := Lib.hid h3
  obtain ⟨A, c, rfl, _⟩ := row_at h1.lown
  obtain ⟨m, hm2⟩ : ∃ m, (liveC L T).length = m := ⟨_, rfl⟩
  obtain ⟨c2, c4, c5, c6, c8, c9⟩ := cirT_cells h1.cells
  have HM2 := Lib.hid hm2
  rw [hm2] at c6 K2
  clear h1 h2 h3 HX K hm2 c2 c4 c5 c8 c9
  go_wp2_with (go_at_call 65; refine K2.out.mono ?_; rintro e w2 ⟨v', rfl, hx⟩; have HX := Lib.hid hx; clear hx)
  go_ret
  refine ⟨v', _, vg', w1.heap.size, rfl, HC.out.below HX.out.2, H2.out, HC.out.lt, H3.out.2.2.2.1, ?_, H3.out.trans (Kp.below HX.out.2)⟩
  rw [HM2.out]
  exact HX.out.1
end Go.Proofs.Yteajlffchdbkjaa.Ci
namespace Go.Proofs.Yteajlffchdbkjaa.Ci
open Go.RowKit Go.Maps Go.Shelf Go.Proofs.Yteajlffchdbkjaa.Rv Go.Proofs.YteajlffchdbkjaaW.PrintWords Go.Proofs.YteajlffchdbkjaaW.PrintLast Go.Proofs.YteajlffchdbkjaaW.PrintMore
set_option linter.unusedVariables false
set_option linter.unusedSimpArgs false
attribute [local go_sem] Oper.semAt_some
/-- The state that a call leaves. -/
def StPost (W : World) (g : Nat) (vl vg : Value) (l : LimV) (L G : List CirP) (last now : Int) (w' : World) : Prop :=
  ∃ vl' vg', CirAt w' g vl' vg' l L G last now ∧ NewO W g vl vg vl' vg' ∧ Kp (okC g vl vg) W w'
theorem StPost.go {W X Y : World} {g : Nat} {vl vg vl1 vg1 : Value} {l : LimV} {L G : List CirP} {last now : Int} (h1 : NewO W g vl vg vl1 vg1) (h2 : Kp (okC g vl vg) W X) (h : StPost X g vl1 vg1 l L G last now Y) : StPost W g vl vg l L G last now Y := by
  obtain ⟨vl2, vg2, k1, k2, k3⟩ := h
  refine ⟨vl2, vg2, k1, h1.trans k2 h2.2.2.2.1, h2.trans' k3 (fun i hi e => ?_)⟩
  rcases h1 i e with e | e
  · exact e
  · omega
theorem StPost.below {X Y : World} {g : Nat} {vl vg : Value} {l : LimV} {L G : List CirP} {last now : Int} (h : CirAt X g vl vg l L G last now) (hb : Below X.heap.size X Y) : StPost X g vl vg l L G last now Y := ⟨vl, vg, h.below hb, NewO.refl _ _ _ _, Kp.below hb⟩
def closeG (L : List CirP) (no : Int) : Bool × List CirP := if posC L no < 0 then (false, L) else (true, L.eraseIdx (posC L no).toNat)
theorem list_kept {X Y : World} {g gr n cp : Nat} {vl vg : Value} {l : LimV} {L L' G : List CirP} {last now : Int} (h : CirAt X g (.slice (some ⟨gr, 0, none⟩) n cp) vg l L G last now) (hk : Kp (fun b => b = gr) X Y) (ho : Y.ownsRow 0 50 6 vl L'.length (flatC L')) (hv : vl.ownBlock = some gr) (hn : L'.length ≤ L.length) :
    StPost X g (.slice (some ⟨gr, 0, none⟩) n cp) vg l L' G last now (Y.setCell ⟨g, 6, none⟩ vl) := by
  have hne := h.ne
  have hgr : gr ≠ g := fun e => hne.1 (by rw [e]; rfl)
  have hgl := h.lt g (.inl rfl)
  have hg : Y.heap[g]? = some (.cells (cirT l (.slice (some ⟨gr, 0, none⟩) n cp) vg last now) 103 (0, 0)) := (hk.2.2.2.2 g hgl (fun e => hgr e.symm)).trans h.cells
  have hgo : Y.ownsRow 0 50 6 vg G.length (flatC G) := own_stays h.gown (fun k hk' => hk.2.2.2.2 k (own_lt h.gown hk') (fun e => h.sep gr rfl (e ▸ hk')))
  refine ⟨vl, vg, ⟨set_cellsN 6 hg (cirT_list _ _ _ _ _ _), own_stays ho (fun k hk' => Below.heap_setCell _ _ _ _ (fun e => hgr (by rw [hv] at hk'; injection hk' with hk'; rw [hk', e]))), own_stays hgo (fun k hk' => Below.heap_setCell _ _ _ _ (fun e => hne.2 (by rw [hk', e]))), fun k hk' => h.sep k (by rw [hv] at hk'; exact hk')⟩, ?_, ?_⟩
  · rintro k (e | e | e)
    · exact .inl (.inl e)
    · exact .inl (.inr (.inl (by rw [hv] at e; exact e)))
    · exact .inl (.inr (.inr e))
  · exact (hk.mono (fun b _ e => .inr (.inl (by rw [e]; rfl)))).set (p := ⟨g, 6, none⟩) (.inl rfl) _
theorem row_some {w : World} {v : Value} {L : List CirP} (h : w.ownsRow 0 50 6 v L.length (flatC L)) {k : Nat} (hk : k < L.length) : ∃ gr cp, v = .slice (some ⟨gr, 0, none⟩) L.length cp := by
  obtain ⟨_, ⟨_, h2⟩ | ⟨gr, cp, _, h2, _⟩⟩ := h
  · omega
  · exact ⟨gr, cp, h2⟩
theorem con_st (W : World) (g : Nat) (vl vg : Value) (l : LimV) (L G : List CirP) (last now t : Int) (h : CirAt W g vl vg l L G last now) (hl : (G.length + L.length + 1) * 48 ≤ 140737488355328) (hm : L.length ≤ 1000000) {T : Int} {L' G' : List CirP} (hT : onT now t = T) (hL' : liveC L T = L') (hG' : G ++ goneC L T = G') :
    Calls Try.prog 55 #[.pointer (some ⟨g, 0, none⟩), .int .i64 t] W fun e w' => e = .returned (.tuple #[]) ∧ StPost W g vl vg l L' G' last T w' := by
  subst hT hL' hG'
  exact con_calls W g vl vg l L G last now t h hl hm
set_option maxRecDepth 100000 in
set_option maxHeartbeats 2000000 in
theorem close_calls (W : World) (g : Nat) (vl vg : Value) (l : LimV) (L G : List CirP) (last now t no : Int) (h : CirAt W g vl vg l L G last now) (hl : (G.length + L.length + 1) * 48 ≤ 140737488355328) (hm : L.length ≤ 1000000) :
    Calls Try.prog 42 #[.pointer (some ⟨g, 0, none⟩), .int .i64 t, .int .i64 no] W fun e w' => e = .returned (.bool (closeG (liveC L (onT now t)) no).1) ∧ StPost W g vl vg l (closeG (liveC L (onT now t)) no).2 (G ++ goneC L (onT now t)) last (onT now t) w' := by
  obtain ⟨T, hT⟩ : ∃ T, onT now t = T := ⟨_, rfl⟩
  obtain ⟨L', hL'⟩ : ∃ L', liveC L T = L' := ⟨_, rfl⟩
  have hm' : L'.length ≤ 1000000 := by rw [← hL']; exact Nat.le_trans (List.length_filter_le _ _) hm
  obtain ⟨G', hG'⟩ : ∃ G', G ++ goneC L T = G' := ⟨_, rfl⟩
  have K := Lib.hid (con_st W g vl vg l L G last now t h hl hm hT hL' hG')
  rw [hT]
  rw [hL', hG']
  have HM := Lib.hid hm'
  clear h hl hm hT hL' hG' hm'
  rcases posC_spec L' no with ⟨hp, _⟩ | ⟨k, hk, hp, _⟩
  · have hcl : closeG L' no = (false, L') := by unfold closeG; rw [hp]; rfl
    rw [hcl]
    have HP := Lib.hid hp
    clear hp hcl
    go_enter Try.func42, Try.ntmps42
    go_upto_region 2 with (go_at_call 55; refine K.out.mono ?_; rintro e w1 ⟨rfl, hx⟩; have HX := Lib.hid hx; clear hx)
    obtain ⟨vl', vg', h1, h2, h3⟩ := HX.out
    have K2 := place_calls w1 g vl' vg' l L' G' last T no h1 HM.out
    rw [HP.out] at K2
    have K2 := Lib.hid K2
    have HC := Lib.hid h1
    have H2 := Lib.hid h2
    have H3 := Lib.hid h3
    clear h1 h2 h3 HX K
    go_wp2_with (go_at_call 58; refine K2.out.mono ?_; rintro e w2 ⟨rfl, hb⟩; have HB := Lib.hid hb; clear hb)
    go_ret
    exact ⟨rfl, StPost.go H2.out H3.out (StPost.below HC.out HB.out)⟩
  · have hcl : closeG L' no = (true, L'.eraseIdx k) := by unfold closeG; rw [hp, if_neg (by omega)]; rfl
    rw [hcl]
    have HP := Lib.hid hp
    have HKK := Lib.hid hk
    have b1 : decide ((k : Int) < 0) = false := decide_eq_false (by omega)
    have hkb : (k : Int) ≤ 1000000 := by have := HM.out; omega
    clear hp hcl
    go_enter Try.func42, Try.ntmps42
    go_upto_region 2 with (go_at_call 55; refine K.out.mono ?_; rintro e w1 ⟨rfl, hx⟩; have HX := Lib.hid hx; clear hx)
    obtain ⟨vl', vg', h1, h2, h3⟩ := HX.out
    obtain ⟨gr, cp, rfl⟩ := row_some h1.lown HKK.out
    have K2 := place_calls w1 g _ vg' l L' G' last T no h1 HM.out
    rw [HP.out] at K2
    have K2 := Lib.hid K2
    have HC := Lib.hid h1
    have H2 := Lib.hid h2
    have H3 := Lib.hid h3
    clear h1 h2 h3 HX K
    go_upto_region 3 with (go_at_call 58; refine K2.out.mono ?_; rintro e w2 ⟨rfl, hb⟩; have HB := Lib.hid hb; clear hb)
    have HC2 := Lib.hid (HC.out.below HB.out)
    have K3 := Lib.hid (del_calls w2 gr cp k L' HC2.out.lown HKK.out HM.out)
    obtain ⟨m, hm2⟩ : ∃ m, L'.length = m := ⟨_, rfl⟩
    obtain ⟨m2, hm3⟩ : ∃ m, (L'.eraseIdx k).length = m := ⟨_, rfl⟩
    have c6 : w2.cell? ⟨g, 6, none⟩ = some (.slice (some ⟨gr, 0, none⟩) m cp) := by rw [← hm2]; exact cell_cellsN HC2.out.cells 6 (by simp [cirT])
    have HM2 := Lib.hid hm2
    have HM3 := Lib.hid hm3
    rw [hm2, hm3] at K3
    have HG2 := Lib.hid (show ∀ X : World, Kp (fun b => b = gr) w2 X → X.cell? ⟨g, 6, none⟩ = some (.slice (some ⟨gr, 0, none⟩) m cp) ∧ X.frozen? ⟨g, 6, none⟩ = false from fun X hX => by
      have hne := HC2.out.ne
      have hg : X.heap[g]? = _ := (hX.2.2.2.2 g (HC2.out.lt g (.inl rfl)) (fun e => hne.1 (by rw [e]; rfl))).trans HC2.out.cells
      rw [← hm2]
      exact ⟨cell_cellsN hg 6 (by simp [cirT]), frozen_cellsN hg 6⟩)
    clear hm2 hm3
    go_wp2_with (go_at_call 59; refine K3.out.mono ?_; rintro e w3 ⟨rfl, hx⟩; have HX := Lib.hid hx; obtain ⟨s1, s2⟩ := HG2.out w3 hx.2; clear hx)
    go_ret
    refine ⟨rfl, StPost.go H2.out (H3.out.trans (Kp.below HB.out)) (list_kept HC2.out HX.out.2 (by rw [HM3.out]; exact HX.out.1) rfl (by rw [List.length_eraseIdx]; split <;> omega))⟩
end Go.Proofs.Yteajlffchdbkjaa.Ci
namespace Go.Proofs.Yteajlffchdbkjaa.Ci
open Go.RowKit Go.Maps Go.Shelf Go.Proofs.Yteajlffchdbkjaa.Rv Go.Proofs.YteajlffchdbkjaaW.PrintWords Go.Proofs.YteajlffchdbkjaaW.PrintLast Go.Proofs.YteajlffchdbkjaaW.PrintMore
set_option linter.unusedVariables false
set_option linter.unusedSimpArgs false
/-- Forward: to whom, the code, the rows. -/
def fwdG (data : Int) (L : List CirP) (no frm size : Int) : Int × Int × List CirP :=
  match L[(posC L no).toNat]? with
  | none => (0, 5, L)
  | some c =>
    if posC L no < 0 ∨ (c.2.1 ≠ frm ∧ c.2.2.1 ≠ frm) then (0, 5, L)
    else if frm = c.2.2.1 then
      (if size > data - c.2.2.2.2.2 then (0, 4, L.eraseIdx (posC L no).toNat) else (c.2.1, 0, L.set (posC L no).toNat (c.1, c.2.1, c.2.2.1, c.2.2.2.1, c.2.2.2.2.1, c.2.2.2.2.2 + size)))
    else
      (if size > data - c.2.2.2.2.1 then (0, 4, L.eraseIdx (posC L no).toNat) else (c.2.2.1, 0, L.set (posC L no).toNat (c.1, c.2.1, c.2.2.1, c.2.2.2.1, c.2.2.2.2.1 + size, c.2.2.2.2.2)))
theorem fwdG_none {data : Int} {L : List CirP} {no frm size : Int} (h : posC L no = -1) : fwdG data L no frm size = (0, 5, L) := by
  unfold fwdG
  rw [h]
  cases L[(-1 : Int).toNat]? with
  | none => rfl
  | some c => dsimp only; rw [if_pos (.inl (by omega))]
theorem fwdG_some {data : Int} {L : List CirP} {no frm size : Int} {k : Nat} (hk : k < L.length) (h : posC L no = k) {c0 c1 c2 c3 c4 c5 : Int} (hc : L[k] = (c0, c1, c2, c3, c4, c5)) :
    fwdG data L no frm size = if c1 ≠ frm ∧ c2 ≠ frm then (0, 5, L) else if frm = c2 then (if size > data - c5 then (0, 4, L.eraseIdx k) else (c1, 0, L.set k (c0, c1, c2, c3, c4, c5 + size))) else (if size > data - c4 then (0, 4, L.eraseIdx k) else (c2, 0, L.set k (c0, c1, c2, c3, c4 + size, c5))) := by
  unfold fwdG
  rw [h, Int.toNat_natCast, List.getElem?_eq_getElem hk, hc]
  dsimp only
  have : ¬ ((k : Int) < 0) := by omega
  simp only [this, false_or]
theorem flatC_set : ∀ (D : List CirP) (i : Nat) (hi : i < D.length) (j : Nat) (hj : j < 6) (v : Value) (c : CirP), cirC c = (cirC D[i]).setIfInBounds j v → flatC (D.set i c) = (flatC D).set (i * 6 + j) v
  | [], i, hi, _, _, _, _, _ => absurd hi (Nat.not_lt_zero _)
  | x :: r, 0, _, j, hj, v, c, hc => by
    have hl : (cirC x).toList.length = 6 := rfl
    rw [List.set_cons_zero, flatC_cons, flatC_cons, Nat.zero_mul, Nat.zero_add, List.set_append_left _ _ (by omega), hc, Array.toList_setIfInBounds]
    rfl
  | x :: r, i + 1, hi, j, hj, v, c, hc => by
    have hl : (cirC x).toList.length = 6 := rfl
    rw [List.set_cons_succ, flatC_cons, flatC_cons, flatC_set r i (by simpa using hi) j hj v c hc, List.set_append_right _ _ (by omega), hl, show (i + 1) * 6 + j - 6 = i * 6 + j by omega]
theorem own_put {w : World} {gr cap n : Nat} {D : List CirP} (h : w.ownsRow 0 50 6 (.slice (some ⟨gr, 0, none⟩) n cap) n (flatC D)) (i : Nat) (hi : i < D.length) (j : Nat) (hj : j < 6) (v : Value) (c : CirP) (hc : cirC c = (cirC D[i]).setIfInBounds j v) : (w.setCell ⟨gr, i * 6 + j, none⟩ v).ownsRow 0 50 6 (.slice (some ⟨gr, 0, none⟩) n cap) n (flatC (D.set i c)) := by
  obtain ⟨h1, h2, h3, cur, h4, h5, h6⟩ := own_slice h
  refine own_mk (by simpa using h1) h2 h3 (set_cellsN (i * 6 + j) h4 rfl) (by simp [h5]) ?_
  rw [flatC_set D i hi j hj v c hc, ← h6, Array.toList_setIfInBounds, List.take_set]
theorem list_put {W : World} {g gr n cp : Nat} {vg : Value} {l : LimV} {L G : List CirP} {last now : Int} (h : CirAt W g (.slice (some ⟨gr, 0, none⟩) n cp) vg l L G last now) (hn : n = L.length) (i : Nat) (hi : i < L.length) (j : Nat) (hj : j < 6) (v : Value) (c : CirP) (hc : cirC c = (cirC L[i]).setIfInBounds j v) :
    StPost W g (.slice (some ⟨gr, 0, none⟩) n cp) vg l (L.set i c) G last now (W.setCell ⟨gr, i * 6 + j, none⟩ v) := by
  have hne := h.ne
  have hgr : gr ≠ g := fun e => hne.1 (by rw [e]; rfl)
  have h1 := h.lown
  rw [← hn] at h1
  have h2 := own_put h1 i hi j hj v c hc
  refine ⟨_, vg, ⟨(Below.heap_setCell _ _ _ _ (Ne.symm hgr)).trans h.cells, by rw [List.length_set, ← hn]; exact h2, own_stays h.gown (fun k hk => Below.heap_setCell _ _ _ _ (fun e => h.sep gr rfl (by rw [hk]; exact congrArg some e))), h.sep⟩, NewO.refl _ _ _ _, (Kp.refl _ _).set (p := ⟨gr, i * 6 + j, none⟩) (.inr (.inl rfl)) _⟩
end Go.Proofs.Yteajlffchdbkjaa.Ci
namespace Go.Proofs.Yteajlffchdbkjaa.Ci
open Go.RowKit Go.Maps Go.Shelf Go.Proofs.Yteajlffchdbkjaa.Rv Go.Proofs.YteajlffchdbkjaaW.PrintWords Go.Proofs.YteajlffchdbkjaaW.PrintLast Go.Proofs.YteajlffchdbkjaaW.PrintMore
set_option linter.unusedVariables false
set_option linter.unusedSimpArgs false
attribute [local go_sem] Oper.semAt_some
theorem StPost.drew {W X : World} {g : Nat} {vl vg : Value} {l : LimV} {L G : List CirP} {last now : Int} (h : StPost W g vl vg l L G last now X) : StPost W g vl vg l L G last now X.drew := by
  obtain ⟨vl', vg', h1, h2, h3⟩ := h
  exact ⟨vl', vg', h1.below (drew_below _), h2, h3.drew⟩
def okBytes (c : CirP) : Prop := (0 ≤ c.2.2.2.2.1 ∧ c.2.2.2.2.1 ≤ 1073741824) ∧ (0 ≤ c.2.2.2.2.2 ∧ c.2.2.2.2.2 ≤ 1073741824) ∧ c.2.1 ≠ c.2.2.1
set_option maxRecDepth 100000 in
set_option maxHeartbeats 4000000 in
theorem fwd_calls (W : World) (g : Nat) (vl vg : Value) (l0 l1 l2 l3 l4 ld : Int) (L G : List CirP) (last now t no frm size : Int) (h : CirAt W g vl vg (l0, l1, l2, l3, l4, ld) L G last now) (hl : (G.length + L.length + 1) * 48 ≤ 140737488355328) (hm : L.length ≤ 1000000)
    (hd : 0 ≤ ld ∧ ld ≤ 1073741824) (hs : 0 ≤ size ∧ size ≤ 1099511627776) (hok : ∀ c ∈ L, okBytes c) :
    Calls Try.prog 34 #[.pointer (some ⟨g, 0, none⟩), .int .i64 t, .int .i64 no, .int .i64 frm, .int .i64 size] W fun e w' => e = .returned (.tuple #[.int .i64 (fwdG ld (liveC L (onT now t)) no frm size).1, .int .i64 (fwdG ld (liveC L (onT now t)) no frm size).2.1]) ∧ StPost W g vl vg (l0, l1, l2, l3, l4, ld) (fwdG ld (liveC L (onT now t)) no frm size).2.2 (G ++ goneC L (onT now t)) last (onT now t) w' := by
  obtain ⟨T, hT⟩ : ∃ T, onT now t = T := ⟨_, rfl⟩
  obtain ⟨L', hL'⟩ : ∃ L', liveC L T = L' := ⟨_, rfl⟩
  have hm' : L'.length ≤ 1000000 := by rw [← hL']; exact Nat.le_trans (List.length_filter_le _ _) hm
  have hok' : ∀ c ∈ L', okBytes c := fun c hc => hok c (by rw [← hL'] at hc; exact (List.mem_filter.1 hc).1)
  obtain ⟨G', hG'⟩ : ∃ G', G ++ goneC L T = G' := ⟨_, rfl⟩
  have K := Lib.hid (con_st W g vl vg _ L G last now t h hl hm hT hL' hG')
  rw [hT]
  rw [hL', hG']
  have HM := Lib.hid hm'
  have b0 : decide (size < 0) = false := decide_eq_false (by omega)
  clear h hl hm hT hL' hG' hm' hok
  rcases posC_spec L' no with ⟨hp, _⟩ | ⟨k, hk, hp, _⟩
  · have hf := fwdG_none (data := ld) (L := L') (no := no) (frm := frm) (size := size) hp
    rw [hf]
    have HP := Lib.hid hp
    clear hp hf b0 hok'
    go_enter Try.func34, Try.ntmps34
    go_upto_region 2 with (go_at_call 55; refine K.out.mono ?_; rintro e w1 ⟨rfl, hx⟩; have HX := Lib.hid hx; clear hx)
    obtain ⟨vl', vg', h1, h2, h3⟩ := HX.out
    have K2 := place_calls w1 g vl' vg' _ L' G' last T no h1 HM.out
    rw [HP.out] at K2
    have K2 := Lib.hid K2
    have HC := Lib.hid h1
    have H2 := Lib.hid h2
    have H3 := Lib.hid h3
    clear h1 h2 h3 HX K
    go_wp2_with (go_at_call 58; refine K2.out.mono ?_; rintro e w2 ⟨rfl, hb⟩; have HB := Lib.hid hb; clear hb)
    go_ret2
    exact ⟨rfl, StPost.go H2.out H3.out (StPost.below HC.out HB.out)⟩
  · obtain ⟨⟨c0, c1, c2, c3, c4, c5⟩, hc⟩ : ∃ c, L'[k] = c := ⟨_, rfl⟩
    have hf := fwdG_some (data := ld) (no := no) (frm := frm) (size := size) hk hp hc
    have hob := hok' (c0, c1, c2, c3, c4, c5) (hc ▸ List.getElem_mem hk)
    obtain ⟨⟨o1, o2⟩, ⟨o3, o4⟩, o5⟩ := hob
    dsimp only at o1 o2 o3 o4 o5
    rw [hf]
    have HCK := Lib.hid hc
    have HP := Lib.hid hp
    have HKK := Lib.hid hk
    have b1 : decide ((k : Int) < 0) = false := decide_eq_false (by omega)
    have hkb : (k : Int) ≤ 1000000 := by have := HM.out; omega
    clear hp hf hc hok'
    by_cases hA : c1 ≠ frm ∧ c2 ≠ frm
    · have b2 : (c1 != frm) = true := by simpa using hA.1
      have b3 : (c2 != frm) = true := by simpa using hA.2
      rw [if_pos hA]
      clear hA
      go_enter Try.func34, Try.ntmps34
      go_upto_region 2 with (go_at_call 55; refine K.out.mono ?_; rintro e w1 ⟨rfl, hx⟩; have HX := Lib.hid hx; clear hx)
      obtain ⟨vl', vg', h1, h2, h3⟩ := HX.out
      obtain ⟨gr, cp, rfl⟩ := row_some h1.lown HKK.out
      have K2 := place_calls w1 g _ vg' _ L' G' last T no h1 HM.out
      rw [HP.out] at K2
      have K2 := Lib.hid K2
      have HC := Lib.hid h1
      have H2 := Lib.hid h2
      have H3 := Lib.hid h3
      clear h1 h2 h3 HX K
      go_upto_region 3 with (go_at_call 58; refine K2.out.mono ?_; rintro e w2 ⟨rfl, hb⟩; have HB := Lib.hid hb; clear hb)
      have HC2 := Lib.hid (HC.out.below HB.out)
      obtain ⟨m, hm2⟩ : ∃ m, L'.length = m := ⟨_, rfl⟩
      have hkm : k < m := by have := HKK.out; omega
      have hm3 : m ≤ 1000000 := by have := HM.out; omega
      have HM2 := Lib.hid hm2
      have hrow := row_of HC2.out.lown
      have hkL := HKK.out
      have hc := HCK.out
      have x0 : w2.cell? ⟨gr, k * 6, none⟩ = some (.int .i64 c0) := by have h := (hrow.2 k hkL 0 (by omega)).1; rw [hc] at h; exact h
      have x1 : w2.cell? ⟨gr, k * 6 + 1, none⟩ = some (.int .i64 c1) := by have h := (hrow.2 k hkL 1 (by omega)).1; rw [hc] at h; exact h
      have x2 : w2.cell? ⟨gr, k * 6 + 2, none⟩ = some (.int .i64 c2) := by have h := (hrow.2 k hkL 2 (by omega)).1; rw [hc] at h; exact h
      have x3 : w2.cell? ⟨gr, k * 6 + 3, none⟩ = some (.int .i64 c3) := by have h := (hrow.2 k hkL 3 (by omega)).1; rw [hc] at h; exact h
      have x4 : w2.cell? ⟨gr, k * 6 + 4, none⟩ = some (.int .i64 c4) := by have h := (hrow.2 k hkL 4 (by omega)).1; rw [hc] at h; exact h
      have x5 : w2.cell? ⟨gr, k * 6 + 5, none⟩ = some (.int .i64 c5) := by have h := (hrow.2 k hkL 5 (by omega)).1; rw [hc] at h; exact h
      have f4 : w2.frozen? ⟨gr, k * 6 + 4, none⟩ = false := (hrow.2 k hkL 4 (by omega)).2
      have f5 : w2.frozen? ⟨gr, k * 6 + 5, none⟩ = false := (hrow.2 k hkL 5 (by omega)).2
      obtain ⟨t2, t4, t5, t6, t8, t9⟩ := cirT_cells HC2.out.cells
      rw [hm2] at t6
      dsimp only at t5
      have hmcp : m ≤ cp ∧ cp ≤ 9223372036854775807 := by have := own_slice HC2.out.lown; unfold maxLen at this; omega
      clear hrow hc hm2 t2 t4 t8 t9 K2 hkL
      go_wp2
      go_ret2
      exact ⟨rfl, StPost.go H2.out (H3.out.trans (Kp.below HB.out)) ⟨_, vg', HC2.out, NewO.refl _ _ _ _, Kp.refl _ _⟩⟩
    · rw [if_neg hA]
      by_cases hB : frm = c2
      · have hA2 : ¬ c1 = frm := fun e => o5 (e.trans hB)
        have b2 : (c1 != frm) = true := by simpa using hA2
        have b3 : (c2 != frm) = false := by simpa using hB.symm
        have b4 : (frm == c2) = true := by simpa using hB
        rw [if_pos hB]
        clear hA hB hA2
        have hw : IntKind.i64.wrap (ld - c5) = ld - c5 := IntWalk.i64_in _ (by omega)
        by_cases hlim : size > ld - c5
        · have b5 : decide (size > ld - c5) = true := decide_eq_true hlim
          rw [if_pos hlim]
          go_enter Try.func34, Try.ntmps34
          go_upto_region 2 with (go_at_call 55; refine K.out.mono ?_; rintro e w1 ⟨rfl, hx⟩; have HX := Lib.hid hx; clear hx)
          obtain ⟨vl', vg', h1, h2, h3⟩ := HX.out
          obtain ⟨gr, cp, rfl⟩ := row_some h1.lown HKK.out
          have K2 := place_calls w1 g _ vg' _ L' G' last T no h1 HM.out
          rw [HP.out] at K2
          have K2 := Lib.hid K2
          have HC := Lib.hid h1
          have H2 := Lib.hid h2
          have H3 := Lib.hid h3
          clear h1 h2 h3 HX K
          go_upto_region 3 with (go_at_call 58; refine K2.out.mono ?_; rintro e w2 ⟨rfl, hb⟩; have HB := Lib.hid hb; clear hb)
          have HC2 := Lib.hid (HC.out.below HB.out)
          obtain ⟨m, hm2⟩ : ∃ m, L'.length = m := ⟨_, rfl⟩
          have hkm : k < m := by have := HKK.out; omega
          have hm3 : m ≤ 1000000 := by have := HM.out; omega
          have HM2 := Lib.hid hm2
          have hrow := row_of HC2.out.lown
          have hkL := HKK.out
          have hc := HCK.out
          have x0 : w2.cell? ⟨gr, k * 6, none⟩ = some (.int .i64 c0) := by have h := (hrow.2 k hkL 0 (by omega)).1; rw [hc] at h; exact h
          have x1 : w2.cell? ⟨gr, k * 6 + 1, none⟩ = some (.int .i64 c1) := by have h := (hrow.2 k hkL 1 (by omega)).1; rw [hc] at h; exact h
          have x2 : w2.cell? ⟨gr, k * 6 + 2, none⟩ = some (.int .i64 c2) := by have h := (hrow.2 k hkL 2 (by omega)).1; rw [hc] at h; exact h
          have x3 : w2.cell? ⟨gr, k * 6 + 3, none⟩ = some (.int .i64 c3) := by have h := (hrow.2 k hkL 3 (by omega)).1; rw [hc] at h; exact h
          have x4 : w2.cell? ⟨gr, k * 6 + 4, none⟩ = some (.int .i64 c4) := by have h := (hrow.2 k hkL 4 (by omega)).1; rw [hc] at h; exact h
          have x5 : w2.cell? ⟨gr, k * 6 + 5, none⟩ = some (.int .i64 c5) := by have h := (hrow.2 k hkL 5 (by omega)).1; rw [hc] at h; exact h
          have f4 : w2.frozen? ⟨gr, k * 6 + 4, none⟩ = false := (hrow.2 k hkL 4 (by omega)).2
          have f5 : w2.frozen? ⟨gr, k * 6 + 5, none⟩ = false := (hrow.2 k hkL 5 (by omega)).2
          obtain ⟨t2, t4, t5, t6, t8, t9⟩ := cirT_cells HC2.out.cells
          rw [hm2] at t6
          dsimp only at t5
          have hmcp : m ≤ cp ∧ cp ≤ 9223372036854775807 := by have := own_slice HC2.out.lown; unfold maxLen at this; omega
          clear hrow hc hm2 t2 t4 t8 t9 K2 hkL
          go_upto_region 6 with fail
          go_quiet (fail)
          revert nq
          intro n1
          go_upto_region 8 with fail
          go_quiet (fail)
          revert nq
          intro n2
          go_upto_region 11 with fail
          go_quiet (fail)
          revert nq
          intro n3
          go_upto_region 12 with fail
          obtain ⟨Z, hZ⟩ : ∃ Z, ((w2.drewN (n1 + n2)).drewN n3) = Z := ⟨_, rfl⟩
          have HZK := Lib.hid (show Kp (okC g vl vg) w2 Z by rw [← hZ]; exact ⟨rfl, rfl, rfl, Nat.le_refl _, fun _ _ _ => rfl⟩)
          have HC3 := Lib.hid (HC2.out.below (X := Z) (by rw [← hZ]; exact ⟨rfl, rfl, rfl, Nat.le_refl _, fun _ _ => rfl⟩))
          have y4 : Z.cell? ⟨gr, k * 6 + 4, none⟩ = some (.int .i64 c4) := by rw [← hZ]; exact x4
          have y5 : Z.cell? ⟨gr, k * 6 + 5, none⟩ = some (.int .i64 c5) := by rw [← hZ]; exact x5
          have g4 : Z.frozen? ⟨gr, k * 6 + 4, none⟩ = false := by rw [← hZ]; exact f4
          have g5 : Z.frozen? ⟨gr, k * 6 + 5, none⟩ = false := by rw [← hZ]; exact f5
          have z6 : Z.cell? ⟨g, 6, none⟩ = some (.slice (some ⟨gr, 0, none⟩) m cp) := by rw [← hZ]; exact t6
          rw [hZ]
          clear hZ
          have K3 := del_calls Z gr cp k L' HC3.out.lown HKK.out HM.out
          obtain ⟨m2, hm4⟩ : ∃ m, (L'.eraseIdx k).length = m := ⟨_, rfl⟩
          have HM3 := Lib.hid hm4
          rw [HM2.out, hm4] at K3
          have K3 := Lib.hid K3
          have HG2 := Lib.hid (show ∀ X : World, Kp (fun b => b = gr) Z X → X.cell? ⟨g, 6, none⟩ = some (.slice (some ⟨gr, 0, none⟩) m cp) ∧ X.frozen? ⟨g, 6, none⟩ = false from fun X hX => by
            have hne := HC3.out.ne
            have hg : X.heap[g]? = _ := (hX.2.2.2.2 g (HC3.out.lt g (.inl rfl)) (fun e => hne.1 (by rw [e]; rfl))).trans HC3.out.cells
            rw [← HM2.out]
            exact ⟨cell_cellsN hg 6 (by simp [cirT]), frozen_cellsN hg 6⟩)
          clear hm4 x0 x1 x2 x3 x4 x5 f4 f5 t5 t6 y4 y5 g4 g5
          go_wp2_with (go_at_call 59; refine K3.out.mono ?_; rintro e w3 ⟨rfl, hx⟩; have HX := Lib.hid hx; obtain ⟨s1, s2⟩ := HG2.out w3 hx.2; clear hx)
          go_ret2
          exact ⟨rfl, StPost.go H2.out ((H3.out.trans (Kp.below HB.out)).trans HZK.out) (list_kept HC3.out HX.out.2 (by rw [HM3.out]; exact HX.out.1) rfl (by rw [List.length_eraseIdx]; split <;> omega))⟩
        · have b5 : decide (size > ld - c5) = false := decide_eq_false hlim
          rw [if_neg hlim]
          have hw2 : IntKind.i64.wrap (c5 + size) = c5 + size := IntWalk.i64_in _ (by omega)
          go_enter Try.func34, Try.ntmps34
          go_upto_region 2 with (go_at_call 55; refine K.out.mono ?_; rintro e w1 ⟨rfl, hx⟩; have HX := Lib.hid hx; clear hx)
          obtain ⟨vl', vg', h1, h2, h3⟩ := HX.out
          obtain ⟨gr, cp, rfl⟩ := row_some h1.lown HKK.out
          have K2 := place_calls w1 g _ vg' _ L' G' last T no h1 HM.out
          rw [HP.out] at K2
          have K2 := Lib.hid K2
          have HC := Lib.hid h1
          have H2 := Lib.hid h2
          have H3 := Lib.hid h3
          clear h1 h2 h3 HX K
          go_upto_region 3 with (go_at_call 58; refine K2.out.mono ?_; rintro e w2 ⟨rfl, hb⟩; have HB := Lib.hid hb; clear hb)
          have HC2 := Lib.hid (HC.out.below HB.out)
          obtain ⟨m, hm2⟩ : ∃ m, L'.length = m := ⟨_, rfl⟩
          have hkm : k < m := by have := HKK.out; omega
          have hm3 : m ≤ 1000000 := by have := HM.out; omega
          have HM2 := Lib.hid hm2
          have hrow := row_of HC2.out.lown
          have hkL := HKK.out
          have hc := HCK.out
          have x0 : w2.cell? ⟨gr, k * 6, none⟩ = some (.int .i64 c0) := by have h := (hrow.2 k hkL 0 (by omega)).1; rw [hc] at h; exact h
          have x1 : w2.cell? ⟨gr, k * 6 + 1, none⟩ = some (.int .i64 c1) := by have h := (hrow.2 k hkL 1 (by omega)).1; rw [hc] at h; exact h
          have x2 : w2.cell? ⟨gr, k * 6 + 2, none⟩ = some (.int .i64 c2) := by have h := (hrow.2 k hkL 2 (by omega)).1; rw [hc] at h; exact h
          have x3 : w2.cell? ⟨gr, k * 6 + 3, none⟩ = some (.int .i64 c3) := by have h := (hrow.2 k hkL 3 (by omega)).1; rw [hc] at h; exact h
          have x4 : w2.cell? ⟨gr, k * 6 + 4, none⟩ = some (.int .i64 c4) := by have h := (hrow.2 k hkL 4 (by omega)).1; rw [hc] at h; exact h
          have x5 : w2.cell? ⟨gr, k * 6 + 5, none⟩ = some (.int .i64 c5) := by have h := (hrow.2 k hkL 5 (by omega)).1; rw [hc] at h; exact h
          have f4 : w2.frozen? ⟨gr, k * 6 + 4, none⟩ = false := (hrow.2 k hkL 4 (by omega)).2
          have f5 : w2.frozen? ⟨gr, k * 6 + 5, none⟩ = false := (hrow.2 k hkL 5 (by omega)).2
          obtain ⟨t2, t4, t5, t6, t8, t9⟩ := cirT_cells HC2.out.cells
          rw [hm2] at t6
          dsimp only at t5
          have hmcp : m ≤ cp ∧ cp ≤ 9223372036854775807 := by have := own_slice HC2.out.lown; unfold maxLen at this; omega
          clear hrow hc hm2 t2 t4 t8 t9 K2 hkL
          go_upto_region 6 with fail
          go_quiet (fail)
          revert nq
          intro n1
          go_upto_region 8 with fail
          go_quiet (fail)
          revert nq
          intro n2
          go_upto_region 11 with fail
          go_quiet (fail)
          revert nq
          intro n3
          go_upto_region 14 with fail
          obtain ⟨Z, hZ⟩ : ∃ Z, ((w2.drewN (n1 + n2)).drewN n3) = Z := ⟨_, rfl⟩
          have HZK := Lib.hid (show Kp (okC g vl vg) w2 Z by rw [← hZ]; exact ⟨rfl, rfl, rfl, Nat.le_refl _, fun _ _ _ => rfl⟩)
          have HC3 := Lib.hid (HC2.out.below (X := Z) (by rw [← hZ]; exact ⟨rfl, rfl, rfl, Nat.le_refl _, fun _ _ => rfl⟩))
          have y4 : Z.cell? ⟨gr, k * 6 + 4, none⟩ = some (.int .i64 c4) := by rw [← hZ]; exact x4
          have y5 : Z.cell? ⟨gr, k * 6 + 5, none⟩ = some (.int .i64 c5) := by rw [← hZ]; exact x5
          have g4 : Z.frozen? ⟨gr, k * 6 + 4, none⟩ = false := by rw [← hZ]; exact f4
          have g5 : Z.frozen? ⟨gr, k * 6 + 5, none⟩ = false := by rw [← hZ]; exact f5
          have z6 : Z.cell? ⟨g, 6, none⟩ = some (.slice (some ⟨gr, 0, none⟩) m cp) := by rw [← hZ]; exact t6
          rw [hZ]
          clear hZ
          clear x0 x1 x2 x3 x4 x5 f4 f5 t5 t6
          go_region
          go_wp2
          go_ret2
          exact ⟨rfl, StPost.drew (StPost.go H2.out ((H3.out.trans (Kp.below HB.out)).trans HZK.out) (list_put HC3.out rfl k HKK.out 5 (by omega) (.int .i64 (c5 + size)) (c0, c1, c2, c3, c4, c5 + size) (by rw [HCK.out]; rfl)))⟩
      · have hA2 : c1 = frm := by
          rcases Classical.em (c1 = frm) with e | e
          · exact e
          · exact absurd ⟨e, fun e2 => hB e2.symm⟩ hA
        have b2 : (c1 != frm) = false := by simpa using hA2
        have b4 : (frm == c2) = false := by simpa using hB
        rw [if_neg hB]
        clear hA hB hA2
        have hw : IntKind.i64.wrap (ld - c4) = ld - c4 := IntWalk.i64_in _ (by omega)
        by_cases hlim : size > ld - c4
        · have b5 : decide (size > ld - c4) = true := decide_eq_true hlim
          rw [if_pos hlim]
          go_enter Try.func34, Try.ntmps34
          go_upto_region 2 with (go_at_call 55; refine K.out.mono ?_; rintro e w1 ⟨rfl, hx⟩; have HX := Lib.hid hx; clear hx)
          obtain ⟨vl', vg', h1, h2, h3⟩ := HX.out
          obtain ⟨gr, cp, rfl⟩ := row_some h1.lown HKK.out
          have K2 := place_calls w1 g _ vg' _ L' G' last T no h1 HM.out
          rw [HP.out] at K2
          have K2 := Lib.hid K2
          have HC := Lib.hid h1
          have H2 := Lib.hid h2
          have H3 := Lib.hid h3
          clear h1 h2 h3 HX K
          go_upto_region 3 with (go_at_call 58; refine K2.out.mono ?_; rintro e w2 ⟨rfl, hb⟩; have HB := Lib.hid hb; clear hb)
          have HC2 := Lib.hid (HC.out.below HB.out)
          obtain ⟨m, hm2⟩ : ∃ m, L'.length = m := ⟨_, rfl⟩
          have hkm : k < m := by have := HKK.out; omega
          have hm3 : m ≤ 1000000 := by have := HM.out; omega
          have HM2 := Lib.hid hm2
          have hrow := row_of HC2.out.lown
          have hkL := HKK.out
          have hc := HCK.out
          have x0 : w2.cell? ⟨gr, k * 6, none⟩ = some (.int .i64 c0) := by have h := (hrow.2 k hkL 0 (by omega)).1; rw [hc] at h; exact h
          have x1 : w2.cell? ⟨gr, k * 6 + 1, none⟩ = some (.int .i64 c1) := by have h := (hrow.2 k hkL 1 (by omega)).1; rw [hc] at h; exact h
          have x2 : w2.cell? ⟨gr, k * 6 + 2, none⟩ = some (.int .i64 c2) := by have h := (hrow.2 k hkL 2 (by omega)).1; rw [hc] at h; exact h
          have x3 : w2.cell? ⟨gr, k * 6 + 3, none⟩ = some (.int .i64 c3) := by have h := (hrow.2 k hkL 3 (by omega)).1; rw [hc] at h; exact h
          have x4 : w2.cell? ⟨gr, k * 6 + 4, none⟩ = some (.int .i64 c4) := by have h := (hrow.2 k hkL 4 (by omega)).1; rw [hc] at h; exact h
          have x5 : w2.cell? ⟨gr, k * 6 + 5, none⟩ = some (.int .i64 c5) := by have h := (hrow.2 k hkL 5 (by omega)).1; rw [hc] at h; exact h
          have f4 : w2.frozen? ⟨gr, k * 6 + 4, none⟩ = false := (hrow.2 k hkL 4 (by omega)).2
          have f5 : w2.frozen? ⟨gr, k * 6 + 5, none⟩ = false := (hrow.2 k hkL 5 (by omega)).2
          obtain ⟨t2, t4, t5, t6, t8, t9⟩ := cirT_cells HC2.out.cells
          rw [hm2] at t6
          dsimp only at t5
          have hmcp : m ≤ cp ∧ cp ≤ 9223372036854775807 := by have := own_slice HC2.out.lown; unfold maxLen at this; omega
          clear hrow hc hm2 t2 t4 t8 t9 K2 hkL
          go_upto_region 6 with fail
          go_quiet (fail)
          revert nq
          intro n1
          go_upto_region 11 with fail
          go_quiet (fail)
          revert nq
          intro n3
          go_upto_region 12 with fail
          obtain ⟨Z, hZ⟩ : ∃ Z, ((w2.drewN n1).drewN n3) = Z := ⟨_, rfl⟩
          have HZK := Lib.hid (show Kp (okC g vl vg) w2 Z by rw [← hZ]; exact ⟨rfl, rfl, rfl, Nat.le_refl _, fun _ _ _ => rfl⟩)
          have HC3 := Lib.hid (HC2.out.below (X := Z) (by rw [← hZ]; exact ⟨rfl, rfl, rfl, Nat.le_refl _, fun _ _ => rfl⟩))
          have y4 : Z.cell? ⟨gr, k * 6 + 4, none⟩ = some (.int .i64 c4) := by rw [← hZ]; exact x4
          have y5 : Z.cell? ⟨gr, k * 6 + 5, none⟩ = some (.int .i64 c5) := by rw [← hZ]; exact x5
          have g4 : Z.frozen? ⟨gr, k * 6 + 4, none⟩ = false := by rw [← hZ]; exact f4
          have g5 : Z.frozen? ⟨gr, k * 6 + 5, none⟩ = false := by rw [← hZ]; exact f5
          have z6 : Z.cell? ⟨g, 6, none⟩ = some (.slice (some ⟨gr, 0, none⟩) m cp) := by rw [← hZ]; exact t6
          rw [hZ]
          clear hZ
          have K3 := del_calls Z gr cp k L' HC3.out.lown HKK.out HM.out
          obtain ⟨m2, hm4⟩ : ∃ m, (L'.eraseIdx k).length = m := ⟨_, rfl⟩
          have HM3 := Lib.hid hm4
          rw [HM2.out, hm4] at K3
          have K3 := Lib.hid K3
          have HG2 := Lib.hid (show ∀ X : World, Kp (fun b => b = gr) Z X → X.cell? ⟨g, 6, none⟩ = some (.slice (some ⟨gr, 0, none⟩) m cp) ∧ X.frozen? ⟨g, 6, none⟩ = false from fun X hX => by
            have hne := HC3.out.ne
            have hg : X.heap[g]? = _ := (hX.2.2.2.2 g (HC3.out.lt g (.inl rfl)) (fun e => hne.1 (by rw [e]; rfl))).trans HC3.out.cells
            rw [← HM2.out]
            exact ⟨cell_cellsN hg 6 (by simp [cirT]), frozen_cellsN hg 6⟩)
          clear hm4 x0 x1 x2 x3 x4 x5 f4 f5 t5 t6 y4 y5 g4 g5
          go_wp2_with (go_at_call 59; refine K3.out.mono ?_; rintro e w3 ⟨rfl, hx⟩; have HX := Lib.hid hx; obtain ⟨s1, s2⟩ := HG2.out w3 hx.2; clear hx)
          go_ret2
          exact ⟨rfl, StPost.go H2.out ((H3.out.trans (Kp.below HB.out)).trans HZK.out) (list_kept HC3.out HX.out.2 (by rw [HM3.out]; exact HX.out.1) rfl (by rw [List.length_eraseIdx]; split <;> omega))⟩
        · have b5 : decide (size > ld - c4) = false := decide_eq_false hlim
          rw [if_neg hlim]
          have hw2 : IntKind.i64.wrap (c4 + size) = c4 + size := IntWalk.i64_in _ (by omega)
          go_enter Try.func34, Try.ntmps34
          go_upto_region 2 with (go_at_call 55; refine K.out.mono ?_; rintro e w1 ⟨rfl, hx⟩; have HX := Lib.hid hx; clear hx)
          obtain ⟨vl', vg', h1, h2, h3⟩ := HX.out
          obtain ⟨gr, cp, rfl⟩ := row_some h1.lown HKK.out
          have K2 := place_calls w1 g _ vg' _ L' G' last T no h1 HM.out
          rw [HP.out] at K2
          have K2 := Lib.hid K2
          have HC := Lib.hid h1
          have H2 := Lib.hid h2
          have H3 := Lib.hid h3
          clear h1 h2 h3 HX K
          go_upto_region 3 with (go_at_call 58; refine K2.out.mono ?_; rintro e w2 ⟨rfl, hb⟩; have HB := Lib.hid hb; clear hb)
          have HC2 := Lib.hid (HC.out.below HB.out)
          obtain ⟨m, hm2⟩ : ∃ m, L'.length = m := ⟨_, rfl⟩
          have hkm : k < m := by have := HKK.out; omega
          have hm3 : m ≤ 1000000 := by have := HM.out; omega
          have HM2 := Lib.hid hm2
          have hrow := row_of HC2.out.lown
          have hkL := HKK.out
          have hc := HCK.out
          have x0 : w2.cell? ⟨gr, k * 6, none⟩ = some (.int .i64 c0) := by have h := (hrow.2 k hkL 0 (by omega)).1; rw [hc] at h; exact h
          have x1 : w2.cell? ⟨gr, k * 6 + 1, none⟩ = some (.int .i64 c1) := by have h := (hrow.2 k hkL 1 (by omega)).1; rw [hc] at h; exact h
          have x2 : w2.cell? ⟨gr, k * 6 + 2, none⟩ = some (.int .i64 c2) := by have h := (hrow.2 k hkL 2 (by omega)).1; rw [hc] at h; exact h
          have x3 : w2.cell? ⟨gr, k * 6 + 3, none⟩ = some (.int .i64 c3) := by have h := (hrow.2 k hkL 3 (by omega)).1; rw [hc] at h; exact h
          have x4 : w2.cell? ⟨gr, k * 6 + 4, none⟩ = some (.int .i64 c4) := by have h := (hrow.2 k hkL 4 (by omega)).1; rw [hc] at h; exact h
          have x5 : w2.cell? ⟨gr, k * 6 + 5, none⟩ = some (.int .i64 c5) := by have h := (hrow.2 k hkL 5 (by omega)).1; rw [hc] at h; exact h
          have f4 : w2.frozen? ⟨gr, k * 6 + 4, none⟩ = false := (hrow.2 k hkL 4 (by omega)).2
          have f5 : w2.frozen? ⟨gr, k * 6 + 5, none⟩ = false := (hrow.2 k hkL 5 (by omega)).2
          obtain ⟨t2, t4, t5, t6, t8, t9⟩ := cirT_cells HC2.out.cells
          rw [hm2] at t6
          dsimp only at t5
          have hmcp : m ≤ cp ∧ cp ≤ 9223372036854775807 := by have := own_slice HC2.out.lown; unfold maxLen at this; omega
          clear hrow hc hm2 t2 t4 t8 t9 K2 hkL
          go_upto_region 6 with fail
          go_quiet (fail)
          revert nq
          intro n1
          go_upto_region 11 with fail
          go_quiet (fail)
          revert nq
          intro n3
          go_upto_region 14 with fail
          obtain ⟨Z, hZ⟩ : ∃ Z, ((w2.drewN n1).drewN n3) = Z := ⟨_, rfl⟩
          have HZK := Lib.hid (show Kp (okC g vl vg) w2 Z by rw [← hZ]; exact ⟨rfl, rfl, rfl, Nat.le_refl _, fun _ _ _ => rfl⟩)
          have HC3 := Lib.hid (HC2.out.below (X := Z) (by rw [← hZ]; exact ⟨rfl, rfl, rfl, Nat.le_refl _, fun _ _ => rfl⟩))
          have y4 : Z.cell? ⟨gr, k * 6 + 4, none⟩ = some (.int .i64 c4) := by rw [← hZ]; exact x4
          have y5 : Z.cell? ⟨gr, k * 6 + 5, none⟩ = some (.int .i64 c5) := by rw [← hZ]; exact x5
          have g4 : Z.frozen? ⟨gr, k * 6 + 4, none⟩ = false := by rw [← hZ]; exact f4
          have g5 : Z.frozen? ⟨gr, k * 6 + 5, none⟩ = false := by rw [← hZ]; exact f5
          have z6 : Z.cell? ⟨g, 6, none⟩ = some (.slice (some ⟨gr, 0, none⟩) m cp) := by rw [← hZ]; exact t6
          rw [hZ]
          clear hZ
          clear x0 x1 x2 x3 x4 x5 f4 f5 t5 t6
          go_region
          go_wp2
          go_ret2
          exact ⟨rfl, StPost.drew (StPost.go H2.out ((H3.out.trans (Kp.below HB.out)).trans HZK.out) (list_put HC3.out rfl k HKK.out 4 (by omega) (.int .i64 (c4 + size)) (c0, c1, c2, c3, c4 + size, c5) (by rw [HCK.out]; rfl)))⟩
end Go.Proofs.Yteajlffchdbkjaa.Ci
namespace Go.Proofs.Yteajlffchdbkjaa.Ci
open Go.RowKit Go.Maps Go.Shelf Go.Proofs.Yteajlffchdbkjaa.Rv Go.Proofs.YteajlffchdbkjaaW.PrintWords Go.Proofs.YteajlffchdbkjaaW.PrintLast Go.Proofs.YteajlffchdbkjaaW.PrintMore
set_option linter.unusedVariables false
set_option linter.unusedSimpArgs false
attribute [local go_sem] Oper.semAt_some max2_int min2_int max_two min_two
theorem cmay_calls (W : World) (n : Int) (h1 : 1 ≤ n) (h2 : n ≤ 2147483647) : Calls Try.prog 54 #[.int .i64 n] W fun e w' => e = .returned (.bool true) ∧ W = w' := by
  have b1 : decide (n ≥ 1) = true := decide_eq_true h1
  have b2 : decide (n ≤ 2147483647) = true := decide_eq_true h2
  clear h1 h2
  go_enter Try.func54, Try.ntmps54
  go_wp2
  go_ret
  exact ⟨rfl, rfl⟩
set_option maxRecDepth 100000 in
set_option maxHeartbeats 2000000 in
theorem cnew_calls (W : World) (a b c d e f : Int) (h : mayL (a, b, c, d, e, f) = true) : Calls Try.prog 25 #[.agg #[.int .i64 a, .int .i64 b, .int .i64 c, .int .i64 d, .int .i64 e, .int .i64 f]] W fun en w' => ∃ g, en = .returned (.tuple #[.pointer (some ⟨g, 0, none⟩), .int .i64 0]) ∧ CirAt w' g (.slice none 0 0) (.slice none 0 0) (a, b, c, d, e, f) [] [] 0 0 ∧ W.heap.size ≤ g ∧ Below W.heap.size W w' := by
  obtain ⟨X, hX⟩ : ∃ X, W.alloc (.cells #[.int .i64 a, .int .i64 b, .int .i64 c, .int .i64 d, .int .i64 e, .int .i64 f] 23) = X := ⟨_, rfl⟩
  have hg : W.grownBy X none := by rw [← hX]; exact World.grownBy_alloc W _ none
  have hc := new_cellsN W 23 #[.int .i64 a, .int .i64 b, .int .i64 c, .int .i64 d, .int .i64 e, .int .i64 f]
  rw [hX] at hc
  have hlt := (Array.getElem?_eq_some_iff.1 hc).1
  have HC := Lib.hid (fun (V : World) (hV : X.grownBy V none) => (hV.block W.heap.size hlt (by simp)).trans hc)
  have c0 := cell_cellsN hc 0 (by simp)
  have c1 := cell_cellsN hc 1 (by simp)
  have c2 := cell_cellsN hc 2 (by simp)
  have c3 := cell_cellsN hc 3 (by simp)
  have c4 := cell_cellsN hc 4 (by simp)
  have c5 := cell_cellsN hc 5 (by simp)
  simp only [List.getElem_toArray, List.getElem_cons_zero, List.getElem_cons_succ] at c0 c1 c2 c3 c4 c5
  have HG := Lib.hid hg
  have K := rvmay_calls X a b c d e f
  rw [h] at K
  have K := Lib.hid K
  clear hg hc h hlt
  go_enter Try.func25, Try.ntmps25
  go_upto_region 3 with (go_at_call 21; refine K.out.mono ?_; rintro en w2 ⟨rfl, hg2⟩)
  clear c0 c1 c2 c3 c4 c5 hX
  have hc := HC.out w2 hg2
  have c0 := cell_cellsN hc 0 (by simp)
  have c1 := cell_cellsN hc 1 (by simp)
  have c2 := cell_cellsN hc 2 (by simp)
  have c3 := cell_cellsN hc 3 (by simp)
  have c4 := cell_cellsN hc 4 (by simp)
  have c5 := cell_cellsN hc 5 (by simp)
  simp only [List.getElem_toArray, List.getElem_cons_zero, List.getElem_cons_succ] at c0 c1 c2 c3 c4 c5
  go_wp2
  go_ret2
  have hs := HG.out.size
  have hb : Below W.heap.size W w2 := ⟨hg2.os.trans HG.out.os, hg2.tape.trans HG.out.tape, hg2.output.trans HG.out.output, Nat.le_trans hs hg2.size, fun k hk => (hg2.block k (by omega) (by simp)).trans (HG.out.block k hk (by simp))⟩
  have hn := new_cellsN w2 103 (cirT (a, b, c, d, e, f) (.slice none 0 0) (.slice none 0 0) 0 0)
  have hnil : ∀ V : World, V.ownsRow 0 50 6 (.slice none 0 0) ([] : List CirP).length (flatC []) := fun V => ⟨rfl, .inl ⟨rfl, rfl⟩⟩
  exact ⟨w2.heap.size, rfl, ⟨hn, hnil _, hnil _, fun k hk => by cases hk⟩, hb.size, hb.alloc hb.size _⟩
end Go.Proofs.Yteajlffchdbkjaa.Ci
namespace Go.Proofs.Yteajlffchdbkjaa.Ci
open Go.RowKit Go.Maps Go.Shelf Go.Proofs.Yteajlffchdbkjaa.Rv Go.Proofs.YteajlffchdbkjaaW.PrintWords Go.Proofs.YteajlffchdbkjaaW.PrintLast Go.Proofs.YteajlffchdbkjaaW.PrintMore
set_option linter.unusedVariables false
set_option linter.unusedSimpArgs false
attribute [local go_sem] Oper.semAt_some max2_int min2_int max_two min_two
theorem openG_all (circuits duration : Int) (L : List CirP) (last now a b u : Int) :
    (L.any (isBetween a b) = true → openG circuits duration L last now a b u = (0, 6, L, last)) ∧ (L.any (isBetween a b) = false → circuits ≤ (L.length : Int) → openG circuits duration L last now a b u = (0, 10, L, last)) ∧
    (L.any (isBetween a b) = false → ¬ circuits ≤ (L.length : Int) → openG circuits duration L last now a b u = (last + 1, 0, L ++ [(last + 1, a, b, (if now + duration < u then now + duration else u), 0, 0)], last + 1)) := by
  unfold openG
  refine ⟨fun h => if_pos h, fun h h2 => ?_, fun h h2 => ?_⟩
  · rw [if_neg (by rw [h]; simp), if_pos h2]
  · rw [if_neg (by rw [h]; simp), if_neg h2]
theorem own_drew {w : World} {base : Nat} {e : TypeId} {size : Nat} {v : Value} {n : Nat} {xs : List Value} (h : w.ownsRow base e size v n xs) : w.drew.ownsRow base e size v n xs := own_stays h (fun _ _ => rfl)
theorem list_new {X Y : World} {g : Nat} {vl vg v : Value} {l : LimV} {L L' G : List CirP} {last now : Int} (h : CirAt X g vl vg l L G last now) (hk : X.grownBy Y vl.ownBlock) (ho : Y.ownsRow 0 50 6 v L'.length (flatC L')) (hat : v.ownBlock = vl.ownBlock ∨ ∃ b, v.ownBlock = some b ∧ X.heap.size ≤ b) :
    StPost X g vl vg l L' G last now (Y.setCell ⟨g, 6, none⟩ v) := by
  have hne := h.ne
  have hgl := h.lt g (.inl rfl)
  have hg : Y.heap[g]? = some (.cells (cirT l vl vg last now) 103 (0, 0)) := (hk.block g hgl (fun e => hne.1 e.symm)).trans h.cells
  have hgo : Y.ownsRow 0 50 6 vg G.length (flatC G) := own_stays h.gown (fun k hk' => hk.block k (own_lt h.gown hk') (fun e => h.sep k e.symm hk'))
  have hvg : v.ownBlock ≠ some g := fun e => by
    rcases hat with h1 | ⟨b, h1, h2⟩
    · exact hne.1 (h1 ▸ e)
    · rw [h1] at e; injection e with e; omega
  refine ⟨v, vg, ⟨set_cellsN 6 hg (cirT_list _ _ _ _ _ _), own_stays ho (fun k hk' => Below.heap_setCell _ _ _ _ (fun e => hvg (by rw [hk', e]))), own_stays hgo (fun k hk' => Below.heap_setCell _ _ _ _ (fun e => hne.2 (by rw [hk', e]))), fun k hk' e => ?_⟩, ?_, ?_⟩
  · rcases hat with h1 | ⟨b, h1, h2⟩
    · exact h.sep k (h1 ▸ hk') e
    · rw [h1] at hk'; injection hk' with hk'; have := own_lt h.gown e; omega
  · rintro k (e | e | e)
    · exact .inl (.inl e)
    · rcases hat with h1 | ⟨b, h1, h2⟩
      · exact .inl (.inr (.inl (h1 ▸ e)))
      · rw [h1] at e; injection e with e; exact .inr (by omega)
    · exact .inl (.inr (.inr e))
  · exact (Kp.grown hk (fun k e => .inr (.inl e))).set (p := ⟨g, 6, none⟩) (.inl rfl) _
/-- The two boxes and the table's cells but its list. -/
def P5 (V : World) (s g : Nat) (a b : Int) (l : LimV) (vg : Value) (last now : Int) : Prop :=
  V.heap[s]? = some (.cells #[.int .i64 a] 3 (0, 0)) ∧ V.heap[s + 1]? = some (.cells #[.int .i64 b] 3 (0, 0)) ∧ ∃ v, V.heap[g]? = some (.cells (cirT l v vg last now) 103 (0, 0))
theorem P5.cells {V : World} {s g : Nat} {a b : Int} {l : LimV} {vg : Value} {last now : Int} (h : P5 V s g a b l vg last now) : V.cell? ⟨s, 0, none⟩ = some (.int .i64 a) ∧ V.cell? ⟨s + 1, 0, none⟩ = some (.int .i64 b) ∧ V.cell? ⟨g, 8, none⟩ = some (.int .i64 last) ∧ V.cell? ⟨g, 4, none⟩ = some (.int .i64 l.2.2.2.2.1) := by
  obtain ⟨h1, h2, v, h3⟩ := h
  exact ⟨cell_cellsN h1 0 (Nat.zero_lt_succ 0), cell_cellsN h2 0 (Nat.zero_lt_succ 0), cell_cellsN h3 8 (by simp [cirT]), cell_cellsN h3 4 (by simp [cirT])⟩
theorem P5.step {V X : World} {s g : Nat} {a b : Int} {l : LimV} {vg : Value} {last now : Int} (h : P5 V s g a b l vg last now) (hk : ∀ k, k < V.heap.size → k = s ∨ k = s + 1 ∨ k = g → X.heap[k]? = V.heap[k]?) : P5 X s g a b l vg last now := by
  obtain ⟨h1, h2, v, h3⟩ := h
  exact ⟨(hk _ (Array.getElem?_eq_some_iff.1 h1).1 (.inl rfl)).trans h1, (hk _ (Array.getElem?_eq_some_iff.1 h2).1 (.inr (.inl rfl))).trans h2, v, (hk _ (Array.getElem?_eq_some_iff.1 h3).1 (.inr (.inr rfl))).trans h3⟩
theorem P5.set {V : World} {s g : Nat} {a b : Int} {l : LimV} {vg : Value} {last now : Int} (h : P5 V s g a b l vg last now) (hs : g < s) (z : Value) : P5 (V.setCell ⟨g, 6, none⟩ z) s g a b l vg last now := by
  obtain ⟨h1, h2, v, h3⟩ := h
  exact ⟨(Below.heap_setCell _ _ _ _ (by show s ≠ g; omega)).trans h1, (Below.heap_setCell _ _ _ _ (by show s + 1 ≠ g; omega)).trans h2, z, set_cellsN 6 h3 (cirT_list _ _ _ _ _ _)⟩
set_option maxRecDepth 100000 in
set_option maxHeartbeats 8000000 in
theorem open_calls (W : World) (g : Nat) (vl vg : Value) (l0 l1 l2 l3 l4 ld : Int) (L G : List CirP) (last tn now a b u : Int) (h : CirAt W g vl vg (l0, l1, l2, l3, l4, ld) L G last tn) (hl : (G.length + L.length + 1) * 48 ≤ 140737488355328) (hm : L.length ≤ 1000000)
    (ha : 1 ≤ a ∧ a ≤ 2147483647) (hb : 1 ≤ b ∧ b ≤ 2147483647) (hab : a ≠ b) (hu : now < u ∧ u ≤ 2199023255552) (hn : tn ≤ now ∧ 0 ≤ now ∧ now ≤ 1099511627776) (hd : 0 ≤ l4 ∧ l4 ≤ 1099511627776) (hla : 0 ≤ last ∧ last ≤ 1000000000) :
    Calls Try.prog 33 #[.pointer (some ⟨g, 0, none⟩), .int .i64 now, .int .i64 a, .int .i64 b, .int .i64 u] W fun e w' => e = .returned (.tuple #[.int .i64 (openG l2 l4 (liveC L now) last now a b u).1, .int .i64 (openG l2 l4 (liveC L now) last now a b u).2.1]) ∧ StPost W g vl vg (l0, l1, l2, l3, l4, ld) (openG l2 l4 (liveC L now) last now a b u).2.2.1 (G ++ goneC L now) (openG l2 l4 (liveC L now) last now a b u).2.2.2 now w' := by
  obtain ⟨X0, hX0⟩ : ∃ X, W.alloc (.cells #[.int .i64 a] 3) = X := ⟨_, rfl⟩
  obtain ⟨X, hX⟩ : ∃ X, X0.alloc (.cells #[.int .i64 b] 3) = X := ⟨_, rfl⟩
  have hs0 : X0.heap.size = W.heap.size + 1 := by rw [← hX0]; simp
  have hb0 : Below W.heap.size W X0 := by rw [← hX0]; exact (Below.refl _ _).alloc (Nat.le_refl _) _
  have hb1 : Below X0.heap.size X0 X := by rw [← hX]; exact (Below.refl _ _).alloc (Nat.le_refl _) _
  have hbX : Below W.heap.size W X := hb0.trans (hb1.mono hb0.size)
  have hba : X.heap[W.heap.size]? = some (.cells #[.int .i64 a] 3 (0, 0)) := (hb1.block _ (by omega)).trans (by rw [← hX0]; exact new_cellsN W _ _)
  have hbb : X.heap[W.heap.size + 1]? = some (.cells #[.int .i64 b] 3 (0, 0)) := by rw [← hX, ← hs0]; exact new_cellsN X0 _ _
  have hCX := h.below hbX
  have KO := Lib.hid (con_st X g vl vg _ L G last tn now hCX hl hm (onT_ok hn.1 hn.2.2) rfl rfl)
  have x9 := (cirT_cells hCX.cells).2.2.2.2.2
  have xa : X.cell? ⟨W.heap.size, 0, none⟩ = some (.int .i64 a) := cell_cellsN hba 0 (Nat.zero_lt_succ 0)
  have xb : X.cell? ⟨W.heap.size + 1, 0, none⟩ = some (.int .i64 b) := cell_cellsN hbb 0 (Nat.zero_lt_succ 0)
  obtain ⟨L', hL'⟩ : ∃ L', liveC L now = L' := ⟨_, rfl⟩
  obtain ⟨G', hG'⟩ : ∃ G', G ++ goneC L now = G' := ⟨_, rfl⟩
  have hm' : L'.length ≤ 1000000 := by rw [← hL']; exact Nat.le_trans (List.length_filter_le _ _) hm
  rw [hL', hG'] at KO ⊢
  obtain ⟨hr1, hr2, hr3⟩ := openG_all l2 l4 L' last now a b u
  have HR1 := Lib.hid hr1
  have HR2 := Lib.hid hr2
  have HR3 := Lib.hid hr3
  have HM := Lib.hid hm'
  have HLT := Lib.hid h.lt
  have HBX := Lib.hid hbX
  have HBA := Lib.hid hba
  have HBB := Lib.hid hbb
  have b1 : (a == b) = false := by simpa using hab
  have b2 : decide (u ≤ now) = false := decide_eq_false (by omega)
  have b3 : decide (now < tn) = false := decide_eq_false (by omega)
  have b4 : decide (now > 1099511627776) = false := decide_eq_false (by omega)
  have KA := Lib.hid (fun V => cmay_calls V a ha.1 ha.2)
  have KB := Lib.hid (fun V => cmay_calls V b hb.1 hb.2)
  have HS := Lib.hid hs0
  clear h hl hm hCX hb0 hb1 hbX hba hbb hL' hG' hm' hr1 hr2 hr3 hab
  go_enter Try.func33, Try.ntmps33
  go_upto_region 3 with (first
    | (go_at_call 54; (with_reducible refine (KA.out _).mono ?_); rintro e w1 ⟨rfl, rfl⟩)
    | (go_at_call 54; (with_reducible refine (KB.out _).mono ?_); rintro e w1 ⟨rfl, rfl⟩))
  clear hX hX0 x9 xa xb b1 b2 b3 b4 KA KB
  go_upto_region 5 with (go_at_call 55; refine KO.out.mono ?_; rintro e w1 ⟨rfl, hx⟩; have HX := Lib.hid hx; clear hx)
  obtain ⟨vl1, vg1, h1, h2, h3⟩ := HX.out
  have hXs := HBX.out.size
  have hba1 : w1.heap[W.heap.size]? = _ := (h3.2.2.2.2 W.heap.size (Array.getElem?_eq_some_iff.1 HBA.out).1 (fun e => Nat.lt_irrefl _ (HLT.out _ e))).trans HBA.out
  have hbb1 : w1.heap[W.heap.size + 1]? = _ := (h3.2.2.2.2 (W.heap.size + 1) (Array.getElem?_eq_some_iff.1 HBB.out).1 (fun e => by have := HLT.out _ e; omega)).trans HBB.out
  have hsw1 : W.heap.size + 1 < w1.heap.size := (Array.getElem?_eq_some_iff.1 hbb1).1
  have xa : w1.cell? ⟨W.heap.size, 0, none⟩ = some (.int .i64 a) := cell_cellsN hba1 0 (Nat.zero_lt_succ 0)
  have xb : w1.cell? ⟨W.heap.size + 1, 0, none⟩ = some (.int .i64 b) := cell_cellsN hbb1 0 (Nat.zero_lt_succ 0)
  have hC1 := h1
  obtain ⟨A, c, rfl, hra⟩ := row_at h1.lown
  have KC := openIn_any W.heap.size (W.heap.size + 1) a b A c L' w1 xa xb HM.out hra.any
  obtain ⟨m, hm2⟩ : ∃ m, L'.length = m := ⟨_, rfl⟩
  obtain ⟨B, hB⟩ : ∃ B, L'.any (isBetween a b) = B := ⟨_, rfl⟩
  rw [hm2, hB] at KC
  have KC := Lib.hid KC
  have y6 : w1.cell? ⟨g, 6, none⟩ = some (.slice A m c) := by rw [← hm2]; exact (cirT_cells h1.cells).2.2.2.1
  have HC1 := Lib.hid h1
  have H2 := Lib.hid h2
  have H3 := Lib.hid ((Kp.below (ok := okC g vl vg) HBX.out).trans h3)
  have HM2 := Lib.hid hm2
  have HBE := Lib.hid hB
  have HB1 := Lib.hid (show w1.heap[W.heap.size]? = some (.cells #[.int .i64 a] 3 (0, 0)) ∧ w1.heap[W.heap.size + 1]? = some (.cells #[.int .i64 b] 3 (0, 0)) ∧ W.heap.size + 1 < w1.heap.size from ⟨hba1, hbb1, hsw1⟩)
  have HNX := Lib.hid (show NewO W g vl vg (.slice A m c) vg1 from by rw [← hm2]; exact fun k hk => (h2 k hk).imp id (fun e => Nat.le_trans HBX.out.size e))
  clear h1 h2 h3 HX KO hXs hba1 hbb1 hsw1 xa xb hC1 hra hm2 hB
  cases B with
  | true =>
    go_wp2_with (go_at_call 57; refine KC.out.mono ?_; rintro e w2 ⟨rfl, hx⟩; have HX := Lib.hid hx; clear hx)
    go_ret2
    rw [HR1.out HBE.out]
    exact ⟨rfl, _, vg1, HC1.out.below HX.out, by rw [HM2.out]; exact HNX.out, H3.out.trans (Kp.below HX.out)⟩
  | false =>
    go_upto_region 7 with (go_at_call 57; refine KC.out.mono ?_; rintro e w2 ⟨rfl, hx⟩; have HX := Lib.hid hx; clear hx)
    have hC2 := HC1.out.below HX.out
    obtain ⟨c2, c4, c5, c6, c8, c9⟩ := cirT_cells hC2.cells
    rw [HM2.out] at c6
    dsimp only at c2 c4
    have HC2 := Lib.hid hC2
    clear hC2 y6 KC c5 c9
    by_cases hfull : l2 ≤ (m : Int)
    · have b5 : decide ((m : Int) ≥ l2) = true := decide_eq_true hfull
      go_quiet (fail)
      revert nq
      intro n1
      clear c2 c4 c6 c8
      go_wp2
      go_ret2
      rw [HR2.out HBE.out (by rw [HM2.out]; exact hfull)]
      exact ⟨rfl, _, vg1, HC2.out.below ⟨rfl, rfl, rfl, Nat.le_refl _, fun _ _ => rfl⟩, by rw [HM2.out]; exact HNX.out, H3.out.trans (Kp.below (HX.out.trans ⟨rfl, rfl, rfl, Nat.le_refl _, fun _ _ => rfl⟩))⟩
    · have b5 : decide ((m : Int) ≥ l2) = false := decide_eq_false (by omega)
      have HR := Lib.hid (HR3.out HBE.out (by rw [HM2.out]; omega))
      obtain ⟨mn, hmn⟩ : ∃ mn, (if now + l4 < u then now + l4 else u) = mn := ⟨_, rfl⟩
      have hw : IntKind.i64.wrap (now + l4) = now + l4 := IntWalk.i64_in _ (by omega)
      have hw2 : wrap64 (last + 1) = last + 1 := by unfold wrap64; omega
      have HMN := Lib.hid hmn
      rw [hmn] at HR
      go_quiet (fail)
      revert nq
      intro n1
      go_upto_region 9 with fail
      obtain ⟨Z, hZ⟩ : ∃ Z, w2.drewN n1 = Z := ⟨_, rfl⟩
      have HZB := Lib.hid (show Below w1.heap.size w1 Z by rw [← hZ]; exact HX.out.trans ⟨rfl, rfl, rfl, Nat.le_refl _, fun _ _ => rfl⟩)
      rw [hZ]
      clear hZ c2 c4 c6 c8
      have hC3 := HC1.out.below HZB.out
      obtain ⟨c2, c4, c5, c6, c8, c9⟩ := cirT_cells hC3.cells
      have f8 := frozen_cellsN hC3.cells 8
      rw [HM2.out] at hC3
      have HC3 := Lib.hid hC3
      clear hC3 c2 c4 c5 c6 c9
      go_upto_region 10 with fail
      obtain ⟨Y, hY⟩ : ∃ Y, Z.setCell ⟨g, 8, none⟩ (.int .i64 (last + 1)) = Y := ⟨_, rfl⟩
      have hgl := HLT.out g (.inl rfl)
      have hB := HB1.out
      have hZs := HZB.out.size
      have hCY : CirAt Y g (.slice A m c) vg1 (l0, l1, l2, l3, l4, ld) L' G' (last + 1) now := by rw [← hY]; exact HC3.out.set (L' := L') 8 (.int .i64 (last + 1)) (cirT_last _ _ _ _ _ _) HC3.out.lown HC3.out.sep HC3.out.ne.1
      have hYk : Kp (okC g (.slice A m c) vg1) Z Y := by rw [← hY]; exact (Kp.refl _ _).set (p := ⟨g, 8, none⟩) (.inl rfl) _
      have hYb : ∀ k, k ≠ g → Y.heap[k]? = Z.heap[k]? := fun k hk => by rw [← hY]; exact Below.heap_setCell _ _ _ _ hk
      have e1 : Y.heap[W.heap.size]? = _ := (hYb _ (by omega)).trans ((HZB.out.block _ (by omega)).trans hB.1)
      have e2 : Y.heap[W.heap.size + 1]? = _ := (hYb _ (by omega)).trans ((HZB.out.block _ (by omega)).trans hB.2.1)
      have xa : Y.cell? ⟨W.heap.size, 0, none⟩ = some (.int .i64 a) := cell_cellsN e1 0 (Nat.zero_lt_succ 0)
      have xb : Y.cell? ⟨W.heap.size + 1, 0, none⟩ = some (.int .i64 b) := cell_cellsN e2 0 (Nat.zero_lt_succ 0)
      obtain ⟨d2, d4, d5, d6, d8, d9⟩ := cirT_cells hCY.cells
      dsimp only at d4
      have HCY := Lib.hid hCY
      have HYK := Lib.hid hYk
      have hmm : m ≤ 1000000 := by have := HM.out; have := HM2.out; omega
      have HOY := HCY.out.lown
      rw [HM2.out] at HOY
      have HOY := Lib.hid (own_drew HOY)
      have HGY := Lib.hid (show ∀ V : World, Y.drew.grownBy V (Value.slice A m c).ownBlock → V.cell? ⟨g, 6, none⟩ = some (.slice A m c) ∧ V.frozen? ⟨g, 6, none⟩ = false from fun V hV => by
        have hg : V.heap[g]? = _ := (hV.block g (HCY.out.lt g (.inl rfl)) (fun e => HCY.out.ne.1 e.symm)).trans HCY.out.cells
        exact ⟨cell_cellsN hg 6 (by simp [cirT]), frozen_cellsN hg 6⟩)
      have HP5 := Lib.hid (show P5 Y W.heap.size g a b (l0, l1, l2, l3, l4, ld) vg1 (last + 1) now from ⟨e1, e2, _, hCY.cells⟩)
      have HNA := Lib.hid (show (Value.slice A m c).ownBlock ≠ some W.heap.size ∧ (Value.slice A m c).ownBlock ≠ some (W.heap.size + 1) ∧ (Value.slice A m c).ownBlock ≠ some g from ⟨fun e => hCY.off e1 (by decide) (by decide) (.inr (.inl e)), fun e => hCY.off e2 (by decide) (by decide) (.inr (.inl e)), hCY.ne.1⟩)
      have HLW := Lib.hid (show W.heap.size + 1 < Y.heap.size ∧ g < W.heap.size from ⟨(Array.getElem?_eq_some_iff.1 e2).1, hgl⟩)
      rw [hY]
      clear hY hCY hYk hYb e1 e2 c8 f8 d2 d5 d9 hgl hB hZs
      refine wp_region_held_drew (S := fun w' => w'.cell? ⟨W.heap.size, 0, none⟩ = some (.int .i64 a) ∧ w'.cell? ⟨W.heap.size + 1, 0, none⟩ = some (.int .i64 b) ∧ w'.cell? ⟨g, 8, none⟩ = some (.int .i64 (last + 1)) ∧ w'.cell? ⟨g, 4, none⟩ = some (.int .i64 l4)) (by kernel_rfl) ?_ (fun hHeld => ?_)
      · exact ⟨xa, xb, d8, d4⟩
      have d6' : Y.drew.cell? ⟨g, 6, none⟩ = some (.slice A m c) := d6
      have a6 : (Y.drew.alloc (.cells #[.int .i64 (last + 1), .int .i64 a, .int .i64 b, .int .i64 mn, .int .i64 0, .int .i64 0] 50)).cell? ⟨g, 6, none⟩ = some (.slice A m c) := (((Below.refl Y.drew.heap.size Y.drew).alloc (Nat.le_refl _) _).cell (World.block_lt_of_cell? _ _ d6')).trans d6'
      have a7 : (Y.alloc (.cells #[.int .i64 (last + 1), .int .i64 a, .int .i64 b, .int .i64 mn, .int .i64 0, .int .i64 0] 50)).cell? ⟨g, 6, none⟩ = some (.slice A m c) := a6
      have ha5 := (HP5.out.step (X := Y.drew.alloc (.cells #[.int .i64 (last + 1), .int .i64 a, .int .i64 b, .int .i64 mn, .int .i64 0, .int .i64 0] 50)) (fun k hk _ => ((Below.refl Y.drew.heap.size Y.drew).alloc (Nat.le_refl _) _).block k hk)).cells
      have HA := Lib.hid ha5
      clear ha5 xa xb d8 d4 d6
      refine wpAnyH_take (i := 0) (v := ?_) rfl (by kernel_rfl) (by kernel_rfl) (by kernel_rfl) (fun _ _ _ h => h) (Or.inl ⟨by rfl, ?_⟩) (by assumption) ?_
      rotate_left
      · (intro w hSw; (try dsimp only at hSw); go_simp; try with_reducible rfl)
      try simp only [Act.put, List.setIfInBounds_toArray, List.set_cons_zero, List.set_cons_succ, List.getElem_toArray, List.getElem_cons_succ, List.getElem_cons_zero]
      refine wpAnyH_take (i := 1) (v := ?_) rfl (by kernel_rfl) (by kernel_rfl) (by kernel_rfl) (fun _ _ _ h => h) (Or.inl ⟨by rfl, ?_⟩) (by assumption) ?_
      rotate_left
      · (intro w hSw; (try dsimp only at hSw); go_simp; try with_reducible rfl)
      try simp only [Act.put, List.setIfInBounds_toArray, List.set_cons_zero, List.set_cons_succ, List.getElem_toArray, List.getElem_cons_succ, List.getElem_cons_zero]
      refine wpAnyH_take (i := 2) (v := ?_) rfl (by kernel_rfl) (by kernel_rfl) (by kernel_rfl) (fun _ _ _ h => h) (Or.inl ⟨by rfl, ?_⟩) (by assumption) ?_
      rotate_left
      · (intro w hSw; (try dsimp only at hSw); go_simp; try with_reducible rfl)
      try simp only [Act.put, List.setIfInBounds_toArray, List.set_cons_zero, List.set_cons_succ, List.getElem_toArray, List.getElem_cons_succ, List.getElem_cons_zero]
      refine wpAnyH_take (i := 3) (v := ?_) rfl (by kernel_rfl) (by kernel_rfl) (by kernel_rfl) (fun _ _ _ h => h) (Or.inl ⟨by rfl, ?_⟩) (by assumption) ?_
      rotate_left
      · (intro w hSw; (try dsimp only at hSw); go_simp; try with_reducible rfl)
      try simp only [Act.put, List.setIfInBounds_toArray, List.set_cons_zero, List.set_cons_succ, List.getElem_toArray, List.getElem_cons_succ, List.getElem_cons_zero]
      refine wpAnyH_take (i := 5) (v := ?_) rfl (by kernel_rfl) (by kernel_rfl) (by kernel_rfl) (fun _ _ _ h => h) (Or.inl ⟨by rfl, ?_⟩) (by assumption) ?_
      rotate_left
      · (intro w hSw; (try dsimp only at hSw); go_simp; try with_reducible rfl)
      try simp only [Act.put, List.setIfInBounds_toArray, List.set_cons_zero, List.set_cons_succ, List.getElem_toArray, List.getElem_cons_succ, List.getElem_cons_zero]
      refine wpAnyH_take (i := 6) (v := ?_) rfl (by kernel_rfl) (by kernel_rfl) (by kernel_rfl) (fun _ _ _ h => h) (Or.inl ⟨by rfl, ?_⟩) (by assumption) ?_
      rotate_left
      · (intro w hSw; (try dsimp only at hSw); go_simp; try with_reducible rfl)
      try simp only [Act.put, List.setIfInBounds_toArray, List.set_cons_zero, List.set_cons_succ, List.getElem_toArray, List.getElem_cons_succ, List.getElem_cons_zero]
      refine wpAnyH_take (i := 7) (v := ?_) rfl (by kernel_rfl) (by kernel_rfl) (by kernel_rfl) (fun _ _ _ h => h) (Or.inl ⟨by rfl, ?_⟩) (by assumption) ?_
      rotate_left
      · (intro w hSw; (try dsimp only at hSw); go_simp; try with_reducible rfl)
      try simp only [Act.put, List.setIfInBounds_toArray, List.set_cons_zero, List.set_cons_succ, List.getElem_toArray, List.getElem_cons_succ, List.getElem_cons_zero]
      refine wpAnyH_take (i := 8) (v := ?_) rfl (by kernel_rfl) (by kernel_rfl) (by kernel_rfl) (fun _ _ _ h => h) (Or.inl ⟨by rfl, ?_⟩) (by assumption) ?_
      rotate_left
      · (intro w hSw; (try dsimp only at hSw); go_simp; try with_reducible rfl)
      try simp only [Act.put, List.setIfInBounds_toArray, List.set_cons_zero, List.set_cons_succ, List.getElem_toArray, List.getElem_cons_succ, List.getElem_cons_zero]
      refine wpAnyH_take (i := 9) (v := ?_) rfl (by kernel_rfl) (by kernel_rfl) (by kernel_rfl) (fun _ _ _ h => h) (Or.inl ⟨by rfl, ?_⟩) (by assumption) ?_
      rotate_left
      · (intro w hSw; (try dsimp only at hSw); go_simp; try with_reducible rfl)
      try simp only [Act.put, List.setIfInBounds_toArray, List.set_cons_zero, List.set_cons_succ, List.getElem_toArray, List.getElem_cons_succ, List.getElem_cons_zero]
      refine wpAnyH_take (i := 10) (v := ?_) rfl (by kernel_rfl) (by kernel_rfl) (by kernel_rfl) (fun _ _ _ h => h) (Or.inl ⟨by rfl, ?_⟩) (by assumption) ?_
      rotate_left
      · (intro w hSw; (try dsimp only at hSw); go_simp; try with_reducible rfl)
      try simp only [Act.put, List.setIfInBounds_toArray, List.set_cons_zero, List.set_cons_succ, List.getElem_toArray, List.getElem_cons_succ, List.getElem_cons_zero]
      refine wpAnyH_take (i := 11) (v := ?_) rfl (by kernel_rfl) (by kernel_rfl) (by kernel_rfl) (fun _ _ _ h => h) (Or.inl ⟨by rfl, ?_⟩) (by assumption) ?_
      rotate_left
      · (intro w hSw; (try dsimp only at hSw); go_simp; try with_reducible rfl)
      try simp only [Act.put, List.setIfInBounds_toArray, List.set_cons_zero, List.set_cons_succ, List.getElem_toArray, List.getElem_cons_succ, List.getElem_cons_zero]
      refine wpAnyH_take (i := 12) (v := ?_) rfl (by kernel_rfl) (by kernel_rfl) (by kernel_rfl) (fun _ _ _ h => h) (Or.inl ⟨by rfl, ?_⟩) (by assumption) ?_
      rotate_left
      · (intro w hSw; (try dsimp only at hSw); go_simp; try with_reducible rfl)
      try simp only [Act.put, List.setIfInBounds_toArray, List.set_cons_zero, List.set_cons_succ, List.getElem_toArray, List.getElem_cons_succ, List.getElem_cons_zero]
      refine wpAnyH_take (i := 13) (v := ?_) rfl (by kernel_rfl) (by kernel_rfl) (by kernel_rfl) (fun _ _ _ h => h) (Or.inl ⟨by rfl, ?_⟩) (by assumption) ?_
      rotate_left
      · (intro w hSw; (try dsimp only at hSw); go_simp; try with_reducible rfl)
      try simp only [Act.put, List.setIfInBounds_toArray, List.set_cons_zero, List.set_cons_succ, List.getElem_toArray, List.getElem_cons_succ, List.getElem_cons_zero]
      refine wpAnyH_take (i := 14) (v := ?_) rfl (by kernel_rfl) (by kernel_rfl) (by kernel_rfl) (fun _ _ _ h => h) (Or.inl ⟨by rfl, ?_⟩) (by assumption) ?_
      rotate_left
      · (intro w hSw; (try dsimp only at hSw); go_simp; try with_reducible rfl)
      try simp only [Act.put, List.setIfInBounds_toArray, List.set_cons_zero, List.set_cons_succ, List.getElem_toArray, List.getElem_cons_succ, List.getElem_cons_zero]
      refine wpAnyH_take (i := 15) (v := ?_) rfl (by kernel_rfl) (by kernel_rfl) (by kernel_rfl) (fun _ _ _ h => h) (Or.inl ⟨by rfl, ?_⟩) (by assumption) ?_
      rotate_left
      · (intro w hSw; (try dsimp only at hSw); go_simp; try with_reducible rfl)
      try simp only [Act.put, List.setIfInBounds_toArray, List.set_cons_zero, List.set_cons_succ, List.getElem_toArray, List.getElem_cons_succ, List.getElem_cons_zero]
      refine wpAnyH_take (i := 16) (v := ?_) rfl (by kernel_rfl) (by kernel_rfl) (by kernel_rfl) (fun _ _ _ h => h) (Or.inl ⟨by rfl, ?_⟩) (by assumption) ?_
      rotate_left
      · (intro w hSw; (try dsimp only at hSw); go_simp; try with_reducible rfl)
      try simp only [Act.put, List.setIfInBounds_toArray, List.set_cons_zero, List.set_cons_succ, List.getElem_toArray, List.getElem_cons_succ, List.getElem_cons_zero]
      refine wpAnyH_take (i := 17) (v := ?_) rfl (by kernel_rfl) (by kernel_rfl) (by kernel_rfl) (fun _ _ _ h => h) (Or.inl ⟨by rfl, ?_⟩) (by assumption) ?_
      rotate_left
      · (intro w hSw; (try dsimp only at hSw); go_simp; try with_reducible rfl)
      try simp only [Act.put, List.setIfInBounds_toArray, List.set_cons_zero, List.set_cons_succ, List.getElem_toArray, List.getElem_cons_succ, List.getElem_cons_zero]
      refine wpAnyH_take (i := 18) (v := ?_) rfl (by kernel_rfl) (by kernel_rfl) (by kernel_rfl) (fun _ _ _ h => h) (Or.inl ⟨by rfl, ?_⟩) (by assumption) ?_
      rotate_left
      · (intro w hSw; (try dsimp only at hSw); go_simp; try with_reducible rfl)
      try simp only [Act.put, List.setIfInBounds_toArray, List.set_cons_zero, List.set_cons_succ, List.getElem_toArray, List.getElem_cons_succ, List.getElem_cons_zero]
      refine wpAnyH_take (i := 19) (v := ?_) rfl (by kernel_rfl) (by kernel_rfl) (by kernel_rfl) (fun _ _ _ h => h) (Or.inl ⟨by rfl, ?_⟩) (by assumption) ?_
      rotate_left
      · (intro w hSw; (try dsimp only at hSw); go_simp; try with_reducible rfl)
      try simp only [Act.put, List.setIfInBounds_toArray, List.set_cons_zero, List.set_cons_succ, List.getElem_toArray, List.getElem_cons_succ, List.getElem_cons_zero]
      refine wpAnyH_take (i := 20) (v := ?_) rfl (by kernel_rfl) (by kernel_rfl) (by kernel_rfl) (fun _ _ _ h => h) (Or.inl ⟨by rfl, ?_⟩) (by assumption) ?_
      rotate_left
      · (intro w hSw; (try dsimp only at hSw); go_simp; try with_reducible rfl)
      try simp only [Act.put, List.setIfInBounds_toArray, List.set_cons_zero, List.set_cons_succ, List.getElem_toArray, List.getElem_cons_succ, List.getElem_cons_zero]
      refine wpAnyH_ready (rs := [4, 21]) (by kernel_rfl) (by simp) ?_
      refine AllReadyH.cons rfl (fun K hK => ?_) (AllReadyH.cons rfl (fun K hK => ?_) AllReadyH.nil)
      · go_simp
        refine hK.out _ _ ?_ (fun hHeld => ?_)
        · exact hHeld
        clear hK K
        try simp only [Act.put, List.setIfInBounds_toArray, List.set_cons_zero, List.set_cons_succ, List.getElem_toArray, List.getElem_cons_succ, List.getElem_cons_zero]
        refine wpAnyH_ready (rs := [21]) (by kernel_rfl) (by simp) ?_
        refine AllReadyH.cons rfl (fun K hK => ?_) AllReadyH.nil
        go_simp
        refine hK.out _ _ ?_ (fun hHeld => ?_)
        · exact HA.out
        clear hK K
        try simp only [Act.put, List.setIfInBounds_toArray, List.set_cons_zero, List.set_cons_succ, List.getElem_toArray, List.getElem_cons_succ, List.getElem_cons_zero]
        refine wpAnyH_ready (rs := [22]) (by kernel_rfl) (by simp) ?_
        refine AllReadyH.cons rfl (fun K hK => ?_) AllReadyH.nil
        refine step_append_cells (w0 := Y) 0 (by rfl) (.tmp 77) (.tmp 94) 45 50 (.agg (cirC (0, 0, 0, 0, 0, 0))) 6 48 rfl Try.underlying45 infoC rfl (by decide) (by decide) (.slice A m c) m (flatC L') (cirC (last + 1, a, b, mn, 0, 0)).toList (by simp [Act.eval]) (by simp [Act.eval]) rfl (by simp [cirC, Value.oneCell']) HOY.out ((drew_below Y).mono (Nat.zero_le _)) (Nat.zero_le _) (by omega) ?_
        intro v5 w5 ho5 hb5 hg5 hat5
        have hp5 := HP5.out.step (X := w5) (fun k hk hk2 => hg5.block k hk (by rcases hk2 with rfl | rfl | rfl <;> first | exact fun e => HNA.out.1 e.symm | exact fun e => HNA.out.2.1 e.symm | exact fun e => HNA.out.2.2 e.symm))
        have ho6 : w5.ownsRow 0 50 6 v5 (L' ++ [(last + 1, a, b, mn, 0, 0)]).length (flatC (L' ++ [(last + 1, a, b, mn, 0, 0)])) := by rw [flatC_snoc, List.length_append, HM2.out]; exact ho5
        obtain ⟨A5, cp5, hv5, _⟩ := rowC_cells (L := L' ++ [(last + 1, a, b, mn, 0, 0)]) ho6
        rw [List.length_append, List.length_singleton, HM2.out] at hv5
        subst hv5
        obtain ⟨s6, f6⟩ := HGY.out w5 hg5
        have HP6 := Lib.hid hp5
        have HO5 := Lib.hid ho6
        have HG5 := Lib.hid hg5
        have HA5 := Lib.hid hat5
        clear hp5 ho5 ho6 hb5 hg5 hat5
        refine hK.out _ _ ?_ (fun hHeld => ?_)
        · exact HP6.out.cells
        clear hK K
        try simp only [Act.put, List.setIfInBounds_toArray, List.set_cons_zero, List.set_cons_succ, List.getElem_toArray, List.getElem_cons_succ, List.getElem_cons_zero]
        refine wpAnyH_take (i := 23) (v := ?_) rfl (by kernel_rfl) (by kernel_rfl) (by kernel_rfl) (fun _ _ _ h => h) (Or.inl ⟨by rfl, ?_⟩) (by assumption) ?_
        rotate_left
        · (intro w hSw; (try dsimp only at hSw); go_simp; try with_reducible rfl)
        try simp only [Act.put, List.setIfInBounds_toArray, List.set_cons_zero, List.set_cons_succ, List.getElem_toArray, List.getElem_cons_succ, List.getElem_cons_zero]
        refine wpAnyH_take (i := 24) (v := ?_) rfl (by kernel_rfl) (by kernel_rfl) (by kernel_rfl) (fun _ _ _ h => h) (Or.inl ⟨by rfl, ?_⟩) (by assumption) ?_
        rotate_left
        · (intro w hSw; (try dsimp only at hSw); go_simp; try with_reducible rfl)
        try simp only [Act.put, List.setIfInBounds_toArray, List.set_cons_zero, List.set_cons_succ, List.getElem_toArray, List.getElem_cons_succ, List.getElem_cons_zero]
        refine wpAnyH_ready (rs := [25]) (by kernel_rfl) (by simp) ?_
        refine AllReadyH.cons rfl (fun K hK => ?_) AllReadyH.nil
        go_simp
        refine hK.out _ _ ?_ (fun hHeld => ?_)
        · exact (HP6.out.set HLW.out.2 _).cells
        clear hK K
        try simp only [Act.put, List.setIfInBounds_toArray, List.set_cons_zero, List.set_cons_succ, List.getElem_toArray, List.getElem_cons_succ, List.getElem_cons_zero]
        refine wpAnyH_done (by kernel_rfl) ?_ _
        go_wp2
        go_ret2
        rw [HR.out]
        exact ⟨rfl, StPost.go (vl1 := .slice A m c) HNX.out (H3.out.trans' (Kp.below HZB.out) (fun _ _ e => e)) (StPost.go (NewO.refl _ _ _ _) HYK.out.drew (list_new (HCY.out.below (drew_below Y)) HG5.out HO5.out HA5.out))⟩
      · go_simp
        refine hK.out _ _ ?_ (fun hHeld => ?_)
        · exact HA.out
        clear hK K
        try simp only [Act.put, List.setIfInBounds_toArray, List.set_cons_zero, List.set_cons_succ, List.getElem_toArray, List.getElem_cons_succ, List.getElem_cons_zero]
        refine wpAnyH_ready (rs := [4]) (by kernel_rfl) (by simp) ?_
        refine AllReadyH.cons rfl (fun K hK => ?_) AllReadyH.nil
        go_simp
        refine hK.out _ _ ?_ (fun hHeld => ?_)
        · exact HA.out
        clear hK K
        try simp only [Act.put, List.setIfInBounds_toArray, List.set_cons_zero, List.set_cons_succ, List.getElem_toArray, List.getElem_cons_succ, List.getElem_cons_zero]
        refine wpAnyH_ready (rs := [22]) (by kernel_rfl) (by simp) ?_
        refine AllReadyH.cons rfl (fun K hK => ?_) AllReadyH.nil
        refine step_append_cells (w0 := Y) 0 (by rfl) (.tmp 77) (.tmp 94) 45 50 (.agg (cirC (0, 0, 0, 0, 0, 0))) 6 48 rfl Try.underlying45 infoC rfl (by decide) (by decide) (.slice A m c) m (flatC L') (cirC (last + 1, a, b, mn, 0, 0)).toList (by simp [Act.eval]) (by simp [Act.eval]) rfl (by simp [cirC, Value.oneCell']) HOY.out ((drew_below Y).mono (Nat.zero_le _)) (Nat.zero_le _) (by omega) ?_
        intro v5 w5 ho5 hb5 hg5 hat5
        have hp5 := HP5.out.step (X := w5) (fun k hk hk2 => hg5.block k hk (by rcases hk2 with rfl | rfl | rfl <;> first | exact fun e => HNA.out.1 e.symm | exact fun e => HNA.out.2.1 e.symm | exact fun e => HNA.out.2.2 e.symm))
        have ho6 : w5.ownsRow 0 50 6 v5 (L' ++ [(last + 1, a, b, mn, 0, 0)]).length (flatC (L' ++ [(last + 1, a, b, mn, 0, 0)])) := by rw [flatC_snoc, List.length_append, HM2.out]; exact ho5
        obtain ⟨A5, cp5, hv5, _⟩ := rowC_cells (L := L' ++ [(last + 1, a, b, mn, 0, 0)]) ho6
        rw [List.length_append, List.length_singleton, HM2.out] at hv5
        subst hv5
        obtain ⟨s6, f6⟩ := HGY.out w5 hg5
        have HP6 := Lib.hid hp5
        have HO5 := Lib.hid ho6
        have HG5 := Lib.hid hg5
        have HA5 := Lib.hid hat5
        clear hp5 ho5 ho6 hb5 hg5 hat5
        refine hK.out _ _ ?_ (fun hHeld => ?_)
        · exact HP6.out.cells
        clear hK K
        try simp only [Act.put, List.setIfInBounds_toArray, List.set_cons_zero, List.set_cons_succ, List.getElem_toArray, List.getElem_cons_succ, List.getElem_cons_zero]
        refine wpAnyH_take (i := 23) (v := ?_) rfl (by kernel_rfl) (by kernel_rfl) (by kernel_rfl) (fun _ _ _ h => h) (Or.inl ⟨by rfl, ?_⟩) (by assumption) ?_
        rotate_left
        · (intro w hSw; (try dsimp only at hSw); go_simp; try with_reducible rfl)
        try simp only [Act.put, List.setIfInBounds_toArray, List.set_cons_zero, List.set_cons_succ, List.getElem_toArray, List.getElem_cons_succ, List.getElem_cons_zero]
        refine wpAnyH_take (i := 24) (v := ?_) rfl (by kernel_rfl) (by kernel_rfl) (by kernel_rfl) (fun _ _ _ h => h) (Or.inl ⟨by rfl, ?_⟩) (by assumption) ?_
        rotate_left
        · (intro w hSw; (try dsimp only at hSw); go_simp; try with_reducible rfl)
        try simp only [Act.put, List.setIfInBounds_toArray, List.set_cons_zero, List.set_cons_succ, List.getElem_toArray, List.getElem_cons_succ, List.getElem_cons_zero]
        refine wpAnyH_ready (rs := [25]) (by kernel_rfl) (by simp) ?_
        refine AllReadyH.cons rfl (fun K hK => ?_) AllReadyH.nil
        go_simp
        refine hK.out _ _ ?_ (fun hHeld => ?_)
        · exact (HP6.out.set HLW.out.2 _).cells
        clear hK K
        try simp only [Act.put, List.setIfInBounds_toArray, List.set_cons_zero, List.set_cons_succ, List.getElem_toArray, List.getElem_cons_succ, List.getElem_cons_zero]
        refine wpAnyH_done (by kernel_rfl) ?_ _
        go_wp2
        go_ret2
        rw [HR.out]
        exact ⟨rfl, StPost.go (vl1 := .slice A m c) HNX.out (H3.out.trans' (Kp.below HZB.out) (fun _ _ e => e)) (StPost.go (NewO.refl _ _ _ _) HYK.out.drew (list_new (HCY.out.below (drew_below Y)) HG5.out HO5.out HA5.out))⟩
end Go.Proofs.Yteajlffchdbkjaa.Ci
