/-
  resv: Drop; circ: on and All where nothing is over and no time goes on. Conditions: as the theorems state them.
  relay: what of hands back: an iterator that tells the numbers of the circuits whose end a peer is, at a time when nothing turns. Conditions: as the theorems state them.
  slices.Collect of the numbers of the circuits whose end a peer is. Conditions: as the theorems state them.
  relay: Leave, at a time when no circuit is over. Conditions: as the theorems state them.
  Equality of two circuits: the same cells are told to be equal. Conditions: as the theorems state them.
  RelayLeaves, plain: what stays true while nobody is late; which circuits go with a peer. Conditions: as the theorems state them.
  RelayLeaves walked. Conditions: numbers are of their kinds; what came in is read.
  RelayLeaves, as its row wants it. No condition.
-/
import Derived.Test.YteajlffchdbkjaaMDb
import Derived.RangeFuncKeeps
import Derived.RangeFuncBox
import Derived.RangeFuncLeaves
import Derived.RangeFuncCalls
import Derived.RangeFuncBound
import Derived.RangeFuncNested
import Derived.BigRegion
import Derived.RangeFuncWrites
import Derived.Test.YteajlffchdbkjaaMNo
import Derived.Test.YteajlffchdbkjaaProg
import Derived.Test.YteajlffchdbkjaaWEqStruct
import Derived.Laws.Cover3
import Derived.Deep.QuietTactic
import Derived.BigQuiet
namespace Go.Proofs.Yteajlffchdbkjaa.Rv
open Go.RowKit Go.Maps Go.Shelf Go.Proofs.YteajlffchdbkjaaW.PrintWords Go.Proofs.YteajlffchdbkjaaW.PrintLast Go.Proofs.YteajlffchdbkjaaW.PrintMore
set_option linter.unusedVariables false
set_option linter.unusedSimpArgs false
attribute [local go_sem] Oper.semAt_some
theorem enc_drop (L : List HeldP) (p : Int) : (encL L).del (key p) = encL (delL L p) := congrArg DataW.map (enc_del L p)
set_option maxRecDepth 100000 in
set_option maxHeartbeats 4000000 in
theorem drop_calls (W : World) (g b n : Nat) (l : LimV) (L : List HeldP) (now t p : Int) (h : TabAt W g b n l L now) (hp : I64 p) :
    Calls Try.prog 39 #[.pointer (some ⟨g, 0, none⟩), .int .i64 t, .int .i64 p] W fun e w' => e = .returned (.bool (hasL (overL L (onT now t)) p)) ∧ TabAt w' g b n l (delL (overL L (onT now t)) p) (onT now t) ∧ Touch g b W w' := by
  obtain ⟨T, hT⟩ : ∃ T, onT now t = T := ⟨_, rfl⟩
  have K := on_calls W g b n l L now t h
  rw [hT] at K ⊢
  have K := Lib.hid K
  have hkey := key_of hp
  obtain ⟨L', hL'⟩ : ∃ L', overL L T = L' := ⟨_, rfl⟩
  rw [hL'] at K ⊢
  obtain ⟨⟨gp, gh, gu⟩, hgp⟩ : ∃ q, getL L' p = q := ⟨_, rfl⟩
  obtain ⟨th, hth⟩ : ∃ x, hasL L' p = x := ⟨_, rfl⟩
  have HTH := Lib.hid hth
  clear h hT hL'
  go_enter Try.func39, Try.ntmps39
  go_upto_region 2 with (go_at_call 43; refine K.out.mono ?_; rintro e w1 ⟨rfl, h1, ht1⟩)
  obtain ⟨c0, c1, c3, c6, c7⟩ := tab_cells h1.1
  have hown := h1.2
  go_upto_region 3 with (at_lookup; refine wpList_lookup_own_ok _ rfl _ _ 99 rfl 3 58 K3 Try.underlying99 heldR (zeroH _) (encD (0, 0, 0)) [] (heldR_mk (0, 0, 0)) b n _ rfl hown _ _ rfl hkey ?_; intro v ps hv; rw [enc_has, enc_at] at *; obtain ⟨q, rfl, hq⟩ := heldR_inv hv; have hq := encD_inj (congrArg Prod.fst hq); rw [hgp] at hq; subst hq; rw [hth]; dsimp only [heldC])
  obtain ⟨X, hX⟩ : ∃ X, w1.alloc (.cells #[.int .i64 gp, .int .u32 gh, .int .i64 gu] 58) = X := ⟨_, rfl⟩
  have hgX : w1.grownBy X none := by rw [← hX]; exact World.grownBy_alloc w1 _ none
  have HT2 := Lib.hid (h1.step hgX)
  have TO2 := Lib.hid (ht1.trans (Touch.grown hgX))
  rw [hX]
  clear hX c0 c1 c3 c6 c7 hown h1 ht1 hgX hth hgp
  obtain ⟨c0, c1, c3, c6, c7⟩ := tab_cells HT2.out.1
  have hown := HT2.out.2
  go_upto_region 4 with (at_delete; refine wpList_delete_own _ rfl _ _ 99 3 rfl 58 K3 Try.underlying99 heldR b n _ rfl hown _ _ rfl hkey ?_; intro w5 hown5 hturn5)
  clear c0 c1 c3 c6 c7 hown
  go_wp2
  go_ret
  refine ⟨by rw [HTH.out]; rfl, ⟨(hturn5.grown.block g HT2.out.lt.1 (by simpa using HT2.out.ne)).trans HT2.out.1, by rw [← enc_drop]; exact hown5⟩, TO2.out.trans (Touch.grownB hturn5.grown)⟩
end Go.Proofs.Yteajlffchdbkjaa.Rv
namespace Go.Proofs.Yteajlffchdbkjaa.Ci
open Go.RowKit Go.Maps Go.Shelf Go.Proofs.Yteajlffchdbkjaa.Rv Go.Proofs.YteajlffchdbkjaaW.PrintWords Go.Proofs.YteajlffchdbkjaaW.PrintLast Go.Proofs.YteajlffchdbkjaaW.PrintMore
set_option linter.unusedVariables false
set_option linter.unusedSimpArgs false
attribute [local go_sem] Oper.semAt_some max2_int min2_int max_two min_two
/-- A cell that is written over with what it holds. -/
theorem set_same {w : World} {g j : Nat} {cs : Array Value} {t : TypeId} {v : Value} (h : w.heap[g]? = some (.cells cs t (0, 0))) (hj : cs[j]? = some v) {B : Nat} {W : World} (hb : Below B W w) : Below B W (w.setCell ⟨g, j, none⟩ v) := by
  refine ⟨hb.os, hb.tape, hb.output, by simp [World.setCell]; exact hb.size, fun k hk => ?_⟩
  by_cases e : k = g
  · subst e
    have hs : cs.setIfInBounds j v = cs := by
      apply Array.ext_getElem?
      intro i
      by_cases e : j = i
      · subst e
        have : j < cs.size := (Array.getElem?_eq_some_iff.1 hj).1
        rw [Array.getElem?_setIfInBounds_self_of_lt this, hj]
      · rw [Array.getElem?_setIfInBounds_ne e]
    rw [set_cellsN j h hs, ← h]
    exact hb.block k hk
  · rw [Below.heap_setCell _ _ _ _ e]
    exact hb.block k hk
set_option maxRecDepth 100000 in
set_option maxHeartbeats 4000000 in
theorem on_same (W : World) (g : Nat) (vl vg : Value) (l : LimV) (L G : List CirP) (last T : Int) (h : CirAt W g vl vg l L G last T) (hl : (G.length + L.length + 1) * 48 ≤ 140737488355328) (hm : L.length ≤ 1000000) (hT : 0 ≤ T ∧ T ≤ 1099511627776) (hall : ∀ i (hi : i < L.length), L[i].2.2.2.1 > T) :
    Calls Try.prog 55 #[.pointer (some ⟨g, 0, none⟩), .int .i64 T] W fun e w' => e = .returned (.tuple #[]) ∧ Below W.heap.size W w' := by
  have hlt := h.lt
  obtain ⟨X, hX⟩ : ∃ X, W.alloc (.cells #[.pointer (some ⟨g, 0, none⟩)] 73) = X := ⟨_, rfl⟩
  have hbX : Below W.heap.size W X := by rw [← hX]; exact (Below.refl _ _).alloc (Nat.le_refl _) _
  have htX : X.heap[W.heap.size]? = some (.cells #[.pointer (some ⟨g, 0, none⟩)] 73 (0, 0)) := by rw [← hX]; exact new_cellsN W _ _
  have hT2 := h.below hbX
  obtain ⟨c2, c4, c5, c6, c8, c9⟩ := cirT_cells hT2.cells
  have hfz := frozen_cellsN hT2.cells 9
  have hbx : X.cell? ⟨W.heap.size, 0, none⟩ = some (.pointer (some ⟨g, 0, none⟩)) := cell_cellsN htX 0 (Nat.zero_lt_succ 0)
  have hm2 : (if 1099511627776 < T then 1099511627776 else T) = T := by split <;> omega
  have hTn : (if T < T then T else T) = T := by split <;> rfl
  have HT := Lib.hid hT2
  have HBX := Lib.hid hbX
  have HTX := Lib.hid htX
  have HB := Lib.hid hl
  have HM := Lib.hid hm
  have HALL := Lib.hid hall
  have HNE := Lib.hid (show g ≠ W.heap.size from Nat.ne_of_lt (hlt g (.inl rfl)))
  clear h hbX htX hT2 hl hm hlt hall hT
  go_enter Try.func55, Try.ntmps55
  go_upto_region 1 with fail
  clear hX
  go_region
  go_upto_region 2 with fail
  obtain ⟨Y, hY⟩ : ∃ Y, (X.setCell ⟨g, 9, none⟩ (.int .i64 T)).drew = Y := ⟨_, rfl⟩
  have HBY := Lib.hid (show Below X.heap.size X Y by rw [← hY]; exact set_same HT.out.cells (by simp [cirT]) (Below.refl _ _) |>.trans ⟨rfl, rfl, rfl, by simp [World.setCell], fun _ _ => rfl⟩)
  have HCY := Lib.hid (HT.out.below HBY.out)
  have HTY := Lib.hid ((HBY.out.block W.heap.size (Array.getElem?_eq_some_iff.1 HTX.out).1).trans HTX.out)
  have HTL := Lib.hid (show W.heap.size < Y.drew.heap.size from (Array.getElem?_eq_some_iff.1 HTY.out).1)
  have HGL := Lib.hid (show g < Y.drew.heap.size from HCY.out.lt g (.inl rfl))
  have HGY := Lib.hid (gone_st HCY.out HTY.out)
  obtain ⟨A, c, hvl, hra⟩ := row_at HCY.out.lown
  subst hvl
  have HRA := Lib.hid (show RowAt Y.drew A L (fun _ => True) from hra.any)
  have e1 : Y.cell? ⟨W.heap.size, 0, none⟩ = some (.pointer (some ⟨g, 0, none⟩)) := cell_cellsN HTY.out 0 (Nat.zero_lt_succ 0)
  have e6 : Y.drew.cell? ⟨g, 6, none⟩ = some (.slice A L.length c) := cell_cellsN HCY.out.cells 6 (by simp [cirT])
  rw [hY]
  clear hY c2 c4 c5 c6 c8 c9 hfz hbx hm2 hTn hra
  refine wp_region_held_drew (S := fun w' => w'.cell? ⟨W.heap.size, 0, none⟩ = some (.pointer (some ⟨g, 0, none⟩))) (by kernel_rfl) ?_ (fun hHeld => ?_)
  · exact e1
  refine wpAnyH_take (i := 0) (v := ?_) rfl (by kernel_rfl) (by kernel_rfl) (by kernel_rfl) (fun _ _ _ h => h) (Or.inl ⟨by rfl, ?_⟩) (by assumption) ?_
  rotate_left
  · (intro w hSw; (try dsimp only at hSw); go_simp; try with_reducible rfl)
  try simp only [Act.put, List.setIfInBounds_toArray, List.set_cons_zero, List.set_cons_succ, List.getElem_toArray, List.getElem_cons_succ, List.getElem_cons_zero]
  refine wpAnyH_take (i := 1) (v := ?_) rfl (by kernel_rfl) (by kernel_rfl) (by kernel_rfl) (fun _ _ _ h => h) (Or.inl ⟨by rfl, ?_⟩) (by assumption) ?_
  rotate_left
  · (intro w hSw; (try dsimp only at hSw); go_simp; try with_reducible rfl)
  try simp only [Act.put, List.setIfInBounds_toArray, List.set_cons_zero, List.set_cons_succ, List.getElem_toArray, List.getElem_cons_succ, List.getElem_cons_zero]
  refine wpAnyH_take (i := 2) (v := ?_) rfl (by kernel_rfl) (by kernel_rfl) (by kernel_rfl) (fun _ _ _ h => h) (Or.inl ⟨by rfl, ?_⟩) (by assumption) ?_
  rotate_left
  · (intro w hSw; (try dsimp only at hSw); go_simp; try with_reducible rfl)
  try simp only [Act.put, List.setIfInBounds_toArray, List.set_cons_zero, List.set_cons_succ, List.getElem_toArray, List.getElem_cons_succ, List.getElem_cons_zero]
  refine wpAnyH_take (i := 3) (v := ?_) rfl (by kernel_rfl) (by kernel_rfl) (by kernel_rfl) (fun _ _ _ h => h) (Or.inl ⟨by rfl, ?_⟩) (by assumption) ?_
  rotate_left
  · (intro w hSw; (try dsimp only at hSw); go_simp; try with_reducible rfl)
  try simp only [Act.put, List.setIfInBounds_toArray, List.set_cons_zero, List.set_cons_succ, List.getElem_toArray, List.getElem_cons_succ, List.getElem_cons_zero]
  refine wpAnyH_take (i := 5) (v := ?_) rfl (by kernel_rfl) (by kernel_rfl) (by kernel_rfl) (fun _ _ _ h => h) (Or.inl ⟨by rfl, ?_⟩) (by assumption) ?_
  rotate_left
  · (intro w hSw; (try dsimp only at hSw); go_simp; try with_reducible rfl)
  try simp only [Act.put, List.setIfInBounds_toArray, List.set_cons_zero, List.set_cons_succ, List.getElem_toArray, List.getElem_cons_succ, List.getElem_cons_zero]
  refine wpAnyH_ready (rs := [4]) (by kernel_rfl) (by simp) ?_
  refine AllReadyH.cons rfl (fun K hK => ?_) AllReadyH.nil
  go_simp
  skip
  refine hK.out _ _ ?_ (fun hHeld => ?_)
  · exact hHeld
  clear hK K
  try simp only [Act.put, List.setIfInBounds_toArray, List.set_cons_zero, List.set_cons_succ, List.getElem_toArray, List.getElem_cons_succ, List.getElem_cons_zero]
  refine wpAnyH_ready (rs := [6]) (by kernel_rfl) (by simp) ?_
  refine AllReadyH.cons rfl (fun K hK => ?_) AllReadyH.nil
  go_simp
  go_at_call 75; refine (delfC_all Y.drew W.heap.size g T _ vg G A c L (HGY.out.below (drew_below _)) HRA.out HB.out HM.out HALL.out).mono ?_; rintro e w3 ⟨rfl, hx3⟩; have HX3 := Lib.hid hx3; have hg3 := (hx3.block g HGL.out).trans HCY.out.cells; have s1 := cell_cellsN ((hx3.block W.heap.size HTL.out).trans HTY.out) 0 (Nat.zero_lt_succ 0); have s2 : w3.cell? ⟨g, 6, none⟩ = some (.slice A L.length c) := cell_cellsN hg3 6 (by simp [cirT]); have s3 := frozen_cellsN hg3 6; have HG3 := Lib.hid hg3; clear hx3 hg3
  refine hK.out _ _ ?_ (fun hHeld => ?_)
  · exact s1
  clear hK K
  try simp only [Act.put, List.setIfInBounds_toArray, List.set_cons_zero, List.set_cons_succ, List.getElem_toArray, List.getElem_cons_succ, List.getElem_cons_zero]
  refine wpAnyH_take (i := 7) (v := ?_) rfl (by kernel_rfl) (by kernel_rfl) (by kernel_rfl) (fun _ _ _ h => h) (Or.inl ⟨by rfl, ?_⟩) (by assumption) ?_
  rotate_left
  · (intro w hSw; (try dsimp only at hSw); go_simp; try with_reducible rfl)
  try simp only [Act.put, List.setIfInBounds_toArray, List.set_cons_zero, List.set_cons_succ, List.getElem_toArray, List.getElem_cons_succ, List.getElem_cons_zero]
  refine wpAnyH_take (i := 8) (v := ?_) rfl (by kernel_rfl) (by kernel_rfl) (by kernel_rfl) (fun _ _ _ h => h) (Or.inl ⟨by rfl, ?_⟩) (by assumption) ?_
  rotate_left
  · (intro w hSw; (try dsimp only at hSw); go_simp; try with_reducible rfl)
  try simp only [Act.put, List.setIfInBounds_toArray, List.set_cons_zero, List.set_cons_succ, List.getElem_toArray, List.getElem_cons_succ, List.getElem_cons_zero]
  refine wpAnyH_ready (rs := [9]) (by kernel_rfl) (by simp) ?_
  refine AllReadyH.cons rfl (fun K hK => ?_) AllReadyH.nil
  go_simp
  skip
  refine hK.out _ _ ?_ (fun hHeld => ?_)
  · exact (World.cell?_setCell_far _ _ _ _ (by show g ≠ W.heap.size; exact HNE.out)).trans hHeld
  clear hK K
  try simp only [Act.put, List.setIfInBounds_toArray, List.set_cons_zero, List.set_cons_succ, List.getElem_toArray, List.getElem_cons_succ, List.getElem_cons_zero]
  refine wpAnyH_done (by kernel_rfl) ?_ _
  go_wp2
  go_end0
  have hb : Below W.heap.size W w3 := HBX.out.trans ((HBY.out.trans ((drew_below Y |>.mono HBY.out.size).trans (HX3.out.mono HBY.out.size))).mono HBX.out.size)
  exact ⟨rfl, set_same HG3.out (by simp [cirT]) hb⟩
set_option maxRecDepth 100000 in
set_option maxHeartbeats 2000000 in
theorem all_same (W : World) (g : Nat) (vl vg : Value) (l : LimV) (L G : List CirP) (last T : Int) (h : CirAt W g vl vg l L G last T) (hl : (G.length + L.length + 1) * 48 ≤ 140737488355328) (hm : L.length ≤ 1000000) (hT : 0 ≤ T ∧ T ≤ 1099511627776) (hall : ∀ i (hi : i < L.length), L[i].2.2.2.1 > T) :
    Calls Try.prog 37 #[.pointer (some ⟨g, 0, none⟩), .int .i64 T] W fun e w' => ∃ v, e = .returned v ∧ w'.ownsRow W.heap.size 50 6 v L.length (flatC L) ∧ Below W.heap.size W w' := by
  have K := Lib.hid (on_same W g vl vg l L G last T h hl hm hT hall)
  have H := Lib.hid h
  have HM := Lib.hid hm
  clear h hl hm hT hall
  go_enter Try.func37, Try.ntmps37
  go_upto_region 2 with (go_at_call 55; refine K.out.mono ?_; rintro e w1 ⟨rfl, hx⟩; have HX := Lib.hid hx; clear hx)
  have h1 := H.out.below HX.out
  have K2 := Lib.hid (clone_any vl L w1 HM.out h1.lown)
  obtain ⟨A, c, rfl, _⟩ := row_at h1.lown
  obtain ⟨m, hm2⟩ : ∃ m, L.length = m := ⟨_, rfl⟩
  obtain ⟨c2, c4, c5, c6, c8, c9⟩ := cirT_cells h1.cells
  have HM2 := Lib.hid hm2
  rw [hm2] at c6 K2
  clear h1 K hm2 c2 c4 c5 c8 c9
  go_wp2_with (go_at_call 65; refine K2.out.mono ?_; rintro e w2 ⟨v', rfl, hx⟩; have HX2 := Lib.hid hx; clear hx)
  go_ret
  exact ⟨v', rfl, by rw [HM2.out]; exact own_lower HX2.out.1 HX.out.size, HX.out.trans (HX2.out.2.mono HX.out.size)⟩
end Go.Proofs.Yteajlffchdbkjaa.Ci
namespace Go.Proofs.Yteajlffchdbkjaa.Re
open Go.RowKit Go.Maps Go.Shelf Go.Proofs.Yteajlffchdbkjaa.Rv Go.Proofs.Yteajlffchdbkjaa.Ci Go.Proofs.Yteajlffchdbkjaa.Sp Go.Proofs.YteajlffchdbkjaaW.PrintWords Go.Proofs.YteajlffchdbkjaaW.PrintLast Go.Proofs.YteajlffchdbkjaaW.PrintMore
set_option linter.unusedVariables false
set_option linter.unusedSimpArgs false
attribute [local go_sem] Oper.semAt_some
def isEnd (p : Int) (c : CirP) : Bool := c.2.1 == p || c.2.2.1 == p
def endsL (L : List CirP) (p : Int) : List Int := (L.filter (isEnd p)).map (·.1)
/-- Blocks of S stay, and every block of circuits. -/
def KpI (S : Nat → Prop) (V V' : World) : Prop := KeepS S V V' ∧ ∀ (b : Nat) (cs : Array Value), V.heap[b]? = some (Obj.cells cs 50 (0, 0)) → V'.heap[b]? = V.heap[b]?
theorem KpI.refl (S : Nat → Prop) (V : World) : KpI S V V := ⟨KeepS.refl _ _, fun _ _ _ => rfl⟩
theorem KpI.trans {S : Nat → Prop} {A B C : World} (h : KpI S A B) (k : KpI S B C) : KpI S A C := ⟨h.1.trans k.1, fun b cs hb => (k.2 b cs ((h.2 b cs hb).trans hb)).trans (h.2 b cs hb)⟩
theorem KpI.below {S : Nat → Prop} {V V' : World} (h : Below V.heap.size V V') (hS : ∀ b, S b → b < V.heap.size) : KpI S V V' := ⟨KeepS.below h hS, fun b cs hb => h.block b (Array.getElem?_eq_some_iff.1 hb).1⟩
theorem KpI.put {S : Nat → Prop} (W : World) (l : Nat) (o o' : Obj) (hl : ¬ S l) (h : W.heap[l]? = some o) (hc : o.isCells = false) : KpI S W (W.putObj l o') := by
  refine ⟨KeepS.put W l o o' hl h, fun b cs hb => ?_⟩
  refine (grownBy_putObj' W l o').block b (Array.getElem?_eq_some_iff.1 hb).1 (fun e => ?_)
  injection e with e
  subst e
  rw [h] at hb
  cases hb
  cases hc
theorem rowC_kp {S : Nat → Prop} {V V' : World} {base n : Nat} {v : Value} {xs : List Value} (h : V.ownsRow base 50 6 v n xs) (k : KpI S V V') : V'.ownsRow base 50 6 v n xs := own_stays h (fun b hb => by
  rcases h.2 with ⟨h1, h2⟩ | ⟨gr, cap, cur, h1, h2, h3, h4⟩
  · rw [h1] at hb; cases hb
  · rw [h1] at hb
    injection hb with hb
    subst hb
    exact k.2 _ cur h3)
/-- of hands back its iterator. -/
theorem of_calls (W : World) (r : Nat) (t p : Int) :
    Calls Try.prog 41 #[.pointer (some ⟨r, 0, none⟩), .int .i64 t, .int .i64 p] W fun e w' => ∃ p1 p2 p3, e = .returned (.func (.func 67) #[] #[.pointer (some ⟨p1, 0, none⟩), .pointer (some ⟨p2, 0, none⟩), .pointer (some ⟨p3, 0, none⟩)]) ∧
      w'.cell? ⟨p1, 0, none⟩ = some (.pointer (some ⟨r, 0, none⟩)) ∧ w'.cell? ⟨p2, 0, none⟩ = some (.int .i64 t) ∧ w'.cell? ⟨p3, 0, none⟩ = some (.int .i64 p) ∧ W.heap.size ≤ p1 ∧ W.heap.size ≤ p2 ∧ W.heap.size ≤ p3 ∧ Below W.heap.size W w' := by
  obtain ⟨W1, hW1⟩ : ∃ X, W.alloc (.cells #[.pointer (some ⟨r, 0, none⟩)] 32) = X := ⟨_, rfl⟩
  obtain ⟨W2, hW2⟩ : ∃ X, W1.alloc (.cells #[.int .i64 t] 3) = X := ⟨_, rfl⟩
  obtain ⟨W3, hW3⟩ : ∃ X, W2.alloc (.cells #[.int .i64 p] 3) = X := ⟨_, rfl⟩
  have hs1 : W1.heap.size = W.heap.size + 1 := by rw [← hW1]; simp
  have hs2 : W2.heap.size = W1.heap.size + 1 := by rw [← hW2]; simp
  have hb1 : Below W.heap.size W W1 := by rw [← hW1]; exact (Below.refl _ _).alloc (Nat.le_refl _) _
  have hb2 : Below W1.heap.size W1 W2 := by rw [← hW2]; exact (Below.refl _ _).alloc (Nat.le_refl _) _
  have hb3 : Below W2.heap.size W2 W3 := by rw [← hW3]; exact (Below.refl _ _).alloc (Nat.le_refl _) _
  have a1 : W3.cell? ⟨W.heap.size, 0, none⟩ = some (.pointer (some ⟨r, 0, none⟩)) := cell_cellsN ((hb3.block W.heap.size (by omega)).trans ((hb2.block W.heap.size (by omega)).trans (by rw [← hW1]; exact new_cellsN W _ _))) 0 (by simp)
  have a2 : W3.cell? ⟨W1.heap.size, 0, none⟩ = some (.int .i64 t) := cell_cellsN ((hb3.block W1.heap.size (by omega)).trans (by rw [← hW2]; exact new_cellsN W1 _ _)) 0 (by simp)
  have a3 : W3.cell? ⟨W2.heap.size, 0, none⟩ = some (.int .i64 p) := cell_cellsN (show W3.heap[W2.heap.size]? = some (.cells #[.int .i64 p] 3 (0, 0)) by rw [← hW3]; exact new_cellsN W2 _ _) 0 (by simp)
  have H := Lib.hid (And.intro a1 (And.intro a2 (And.intro a3 (And.intro hs1 (And.intro hs2 (hb1.trans ((hb2.trans (hb3.mono hb2.size)).mono hb1.size)))))))
  clear a1 a2 a3 hb1 hb2 hb3 hs1 hs2
  go_enter Try.func41, Try.ntmps41
  go_wp2
  go_ret
  obtain ⟨a1, a2, a3, hs1, hs2, hb⟩ := H.out
  exact ⟨_, _, _, rfl, a1, a2, a3, Nat.le_refl _, by omega, by omega, hb⟩
theorem endsL_take (L : List CirP) (p : Int) (i : Nat) (hi : i < L.length) : endsL (L.take (i + 1)) p = if isEnd p L[i] then endsL (L.take i) p ++ [L[i].1] else endsL (L.take i) p := by
  unfold endsL
  rw [List.take_add_one, List.getElem?_eq_getElem hi]
  simp only [Option.toList, List.filter_append, List.map_append, List.filter_cons, List.filter_nil]
  split <;> simp
set_option maxRecDepth 100000 in
set_option maxHeartbeats 4000000 in
theorem of_told (n : Nat) (hn : 1 ≤ n) (S : Nat → Prop) (p1 p2 p3 r g : Nat) (L : List CirP) (t p : Int) (w : World) (h3 : S p3) (hN : ∀ b, S b → b < w.heap.size)
    (c1 : w.cell? ⟨p1, 0, none⟩ = some (.pointer (some ⟨r, 0, none⟩))) (c2 : w.cell? ⟨p2, 0, none⟩ = some (.int .i64 t)) (c3 : w.cell? ⟨p3, 0, none⟩ = some (.int .i64 p)) (cr : w.cell? ⟨r, 3, none⟩ = some (.pointer (some ⟨g, 0, none⟩)))
    (hA : ∀ V, Below w.heap.size w V → Calls Try.prog 37 #[.pointer (some ⟨g, 0, none⟩), .int .i64 t] V fun e w' => ∃ v, e = .returned v ∧ w'.ownsRow V.heap.size 50 6 v L.length (flatC L) ∧ Below V.heap.size V w') (hl : L.length ≤ 10000) :
    Rv.Told Fence.wide n Try.prog 67 #[.pointer (some ⟨p1, 0, none⟩), .pointer (some ⟨p2, 0, none⟩), .pointer (some ⟨p3, 0, none⟩)] (fun no : Int => #[.int .i64 no]) (KpI S) (fun pre x _ => pre.length < 10001) (fun xs => xs = endsL L p) w := fun lp J W hW hJ hY h0 => by
  have hNW : ∀ b, S b → b < W.heap.size := fun b hb => Nat.lt_of_lt_of_le (hN b hb) hW.size
  have e1 := (hW.cell (p := ⟨p1, 0, none⟩) (World.block_lt_of_cell? _ _ c1)).trans c1
  have e2 := (hW.cell (p := ⟨p2, 0, none⟩) (World.block_lt_of_cell? _ _ c2)).trans c2
  have e3 := (hW.cell (p := ⟨p3, 0, none⟩) (World.block_lt_of_cell? _ _ c3)).trans c3
  have e4 := (hW.cell (p := ⟨r, 3, none⟩) (World.block_lt_of_cell? _ _ cr)).trans cr
  have KA := Lib.hid hA
  have HW := Lib.hid hW
  have HJ := Lib.hid hJ
  have H0 := Lib.hid h0
  have HN := Lib.hid hNW
  have E3 := Lib.hid e3
  have Hl := Lib.hid hl
  clear c1 c2 c3 cr hA hW hJ h0 hN hNW e3 hl
  refine callsIn_of_wp Try.func67 rfl trivial ?_ rfl
  simp only [Try.ntmps67, List.size_toArray, List.length_cons, List.length_nil, Nat.reduceAdd, Nat.reduceSub, Array.replicate_succ, Array.replicate_zero, List.push_toArray, List.append_toArray, List.nil_append, List.cons_append]
  gi_wp2
  gi_region_with (refine ⟨trivial, ?_⟩; gi_at_call 37; refine (callsIn_wide.2 (KA.out _ (HW.out.trans ((drew_below W).mono HW.out.size)))).mono ?_; rintro en w1 ⟨v, rfl, hrow, hb⟩; obtain ⟨A4, c4, hv4, hra⟩ := row_at (own_lower hrow (Nat.zero_le _)); subst hv4; have HROW := Lib.hid hrow; have HB1 := Lib.hid hb; clear hrow hra hb)
  all_goals
    gi_wp2
    obtain ⟨m, hm⟩ : ∃ m, L.length = m := ⟨_, rfl⟩
    have HM := Lib.hid hm
    have HBW := Lib.hid (show Below W.heap.size W w1 from (drew_below W).trans (HB1.out.mono (drew_below W).size))
    rw [hm]
    clear hm e1 e2 e4
    gi_loopw [14] (fun v14 wr => ∃ i : Nat, v14 = .int .i64 i ∧ i ≤ m ∧ J (endsL (L.take i) p) wr ∧ KpI S w1 wr) (fun v14 _ => m - (intOf v14).toNat)
    case atStart => exact ⟨0, rfl, Nat.zero_le _, HJ.out _ _ _ none H0.out ⟨HBW.out.os, HBW.out.tape, HBW.out.output, HBW.out.size, fun i hi _ => HBW.out.block i hi⟩ (fun _ e => by cases e), KpI.refl _ _⟩
    case round =>
      obtain ⟨i, rfl, hi, hJs, hkp⟩ := hrel
      by_cases hlt : i < m
      · have hb1 : decide ((i : Int) < (m : Int)) = true := decide_eq_true (by omega)
        have hiL : i < L.length := by rw [HM.out]; exact hlt
        obtain ⟨A5, c5', hv5, hra⟩ := row_at (own_lower (rowC_kp HROW.out hkp) (Nat.zero_le _))
        injection hv5 with ea eb ec
        subst ea
        subst ec
        clear eb
        obtain ⟨gr, rfl, hx⟩ : ∃ gr, A4 = some ⟨gr, 0, none⟩ ∧ Hid (∀ j (hj : j < 6), wr.cell? ⟨gr, i * 6 + j, none⟩ = (cirC L[i])[j]?) := by
          rcases hra with h | ⟨gr, h1, _, h2, h3⟩
          · omega
          · exact ⟨gr, h1, Lib.hid (fun j hj => h3 wr rfl i hiL j hj)⟩
        obtain ⟨⟨c0, c1, c2, c3, c4, c5⟩, hc⟩ : ∃ c, L[i] = c := ⟨_, rfl⟩
        have x0 : wr.cell? ⟨gr, i * 6, none⟩ = some (.int .i64 c0) := by have h := hx.out 0 (by omega); rw [hc] at h; exact h
        have x1 : wr.cell? ⟨gr, i * 6 + 1, none⟩ = some (.int .i64 c1) := by have h := hx.out 1 (by omega); rw [hc] at h; exact h
        have x2 : wr.cell? ⟨gr, i * 6 + 2, none⟩ = some (.int .i64 c2) := by have h := hx.out 2 (by omega); rw [hc] at h; exact h
        have x3 : wr.cell? ⟨gr, i * 6 + 3, none⟩ = some (.int .i64 c3) := by have h := hx.out 3 (by omega); rw [hc] at h; exact h
        have x4 : wr.cell? ⟨gr, i * 6 + 4, none⟩ = some (.int .i64 c4) := by have h := hx.out 4 (by omega); rw [hc] at h; exact h
        have x5 : wr.cell? ⟨gr, i * 6 + 5, none⟩ = some (.int .i64 c5) := by have h := hx.out 5 (by omega); rw [hc] at h; exact h
        have hen := endsL_take L p i hiL
        rw [hc] at hen
        obtain ⟨X, hX⟩ : ∃ X, wr.alloc (.cells #[.int .i64 c0, .int .i64 c1, .int .i64 c2, .int .i64 c3, .int .i64 c4, .int .i64 c5] 50) = X := ⟨_, rfl⟩
        have hbX : Below wr.heap.size wr X := by rw [← hX]; exact (Below.refl _ _).alloc (Nat.le_refl _) _
        have hnX : X.heap[wr.heap.size]? = some (.cells #[.int .i64 c0, .int .i64 c1, .int .i64 c2, .int .i64 c3, .int .i64 c4, .int .i64 c5] 50 (0, 0)) := by rw [← hX]; exact new_cellsN wr _ _
        have y0 : X.cell? ⟨wr.heap.size, 0, none⟩ = some (.int .i64 c0) := cell_cellsN hnX 0 (by simp)
        have y1 : X.cell? ⟨wr.heap.size, 1, none⟩ = some (.int .i64 c1) := cell_cellsN hnX 1 (by simp)
        have y2 : X.cell? ⟨wr.heap.size, 2, none⟩ = some (.int .i64 c2) := cell_cellsN hnX 2 (by simp)
        have hlt1 : ∀ b, S b → b < wr.heap.size := fun b hb => by have := HN.out b hb; have := HBW.out.size; have := hkp.1.1; omega
        have HKX := Lib.hid (hkp.trans (KpI.below hbX hlt1))
        have y3 : X.cell? ⟨p3, 0, none⟩ = some (.int .i64 p) := (HKX.out.1.cell (p := ⟨p3, 0, none⟩) h3).trans ((HBW.out.cell (p := ⟨p3, 0, none⟩) (HN.out p3 h3)).trans E3.out)
        have HJX := Lib.hid (HJ.out _ _ _ none hJs ⟨hbX.os, hbX.tape, hbX.output, hbX.size, fun i hi _ => hbX.block i hi⟩ (fun _ e => by cases e))
        have HLEN := Lib.hid (show (endsL (L.take i) p).length ≤ L.length by unfold endsL; rw [List.length_map]; exact Nat.le_trans (List.length_filter_le _ _) (by rw [List.length_take]; omega))
        have hiI : (i : Int) < (m : Int) := by omega
        have hm4 : m ≤ 10000 := by rw [← HM.out]; exact Hl.out
        clear hnX hbX hx hra hJs hkp hlt1
        by_cases ha : c1 = p
        · have b1 : (c1 == p) = true := by simpa using ha
          have HEN := Lib.hid (show endsL (L.take (i + 1)) p = endsL (L.take i) p ++ [c0] by rw [hen, if_pos (by simp [isEnd, ha])])
          clear hen ha hc
          obtain ⟨fn, tmps, assign, body, hy, hR⟩ := hY (endsL (L.take i) p) c0 X HJX.out (by have := HLEN.out; have := Hl.out; have := HM.out; omega)
          (try dsimp only at hy)
          gi_wp2
          refine hR.mono ?_
          rintro rr W3 ⟨rfl, hJ3, hk3⟩
          gi_wp2
          go_roundw
          case rel => exact ⟨i + 1, by go_num, by omega, by rw [HEN.out]; exact hJ3, HKX.out.trans hk3⟩
          case measure => simp [intOf]; omega
        · have b1 : (c1 == p) = false := by simpa using ha
          by_cases hb : c2 = p
          · have b2 : (c2 == p) = true := by simpa using hb
            have HEN := Lib.hid (show endsL (L.take (i + 1)) p = endsL (L.take i) p ++ [c0] by rw [hen, if_pos (by simp [isEnd, hb])])
            clear hen ha hb hc
            obtain ⟨fn, tmps, assign, body, hy, hR⟩ := hY (endsL (L.take i) p) c0 X HJX.out (by have := HLEN.out; have := Hl.out; have := HM.out; omega)
            (try dsimp only at hy)
            gi_wp2
            refine hR.mono ?_
            rintro rr W3 ⟨rfl, hJ3, hk3⟩
            gi_wp2
            go_roundw
            case rel => exact ⟨i + 1, by go_num, by omega, by rw [HEN.out]; exact hJ3, HKX.out.trans hk3⟩
            case measure => simp [intOf]; omega
          · have b2 : (c2 == p) = false := by simpa using hb
            have HEN := Lib.hid (show endsL (L.take (i + 1)) p = endsL (L.take i) p by rw [hen, if_neg (by simp [isEnd, ha, hb])])
            clear hen ha hb hc
            gi_wp2
            refine ⟨(fun f h => by cases h), ?_⟩
            gi_wp2
            go_roundw
            case rel => exact ⟨i + 1, by go_num, by omega, by rw [HEN.out]; exact HJX.out, HKX.out⟩
            case measure => simp [intOf]; omega
      · have hb1 : decide ((i : Int) < (m : Int)) = false := decide_eq_false (by omega)
        gi_wp2
        refine bodyPost_end (results_none rfl _ _ _) rfl ?_
        exact ⟨⟨_, rfl⟩, _, rfl, by rw [List.take_of_length_le (by rw [HM.out]; omega)] at hJs; exact hJs⟩
end Go.Proofs.Yteajlffchdbkjaa.Re
namespace Go.Proofs.Yteajlffchdbkjaa.Re
open Go.RowKit Go.Maps Go.Shelf Go.Proofs.Yteajlffchdbkjaa.Rv Go.Proofs.Yteajlffchdbkjaa.Ci Go.Proofs.Yteajlffchdbkjaa.Sp Go.Proofs.YteajlffchdbkjaaW.PrintWords Go.Proofs.YteajlffchdbkjaaW.PrintLast Go.Proofs.YteajlffchdbkjaaW.PrintMore
set_option linter.unusedVariables false
set_option linter.unusedSimpArgs false
attribute [local go_sem] Oper.semAt_some
def encI (x : Int) : Value := .int .i64 x
theorem infoI : (Try.prog.info? 3).map (fun i => (i.zero, i.size, i.bytes)) = some (some (.int .i64 0), 1, 8) := by kernel_rfl
theorem KpI.grown {S : Nat → Prop} {V X Y : World} {row : Option Nat} (h : KpI S V X) (hS : ∀ b, S b → b < V.heap.size) (hg : X.grownBy Y row) (hr : ∀ r, row = some r → ¬ S r ∧ ∃ o : Obj, X.heap[r]? = some o ∧ o.isCells = false) : KpI S V Y :=
  ⟨h.1.grown hS hg (fun r e hb => (hr r e).1 hb), fun b cs hb => by
    have hx := (h.2 b cs hb).trans hb
    rw [hb]
    refine (hg.block b (Array.getElem?_eq_some_iff.1 hx).1 (fun e => ?_)).trans hx
    obtain ⟨o, ho, hc⟩ := (hr b e.symm).2
    rw [hx] at ho
    cases ho
    cases hc⟩
theorem rowI_block {V : World} {base n : Nat} {v : Value} {xs : List Value} (h : V.ownsRow base 3 1 v n xs) : ∀ k, v.ownBlock = some k → base ≤ k ∧ ∃ cur, V.heap[k]? = some (.cells cur 3 (0, 0)) := by
  intro k hk
  rcases h.2 with ⟨h1, h2⟩ | ⟨gr, cap, cur, h1, h2, h3, h4⟩
  · rw [h1] at hk; cases hk
  · rw [h1] at hk
    injection hk with hk
    subst hk
    exact ⟨h2, cur, h3⟩
theorem rowI_own {V Y : World} {base n : Nat} {v : Value} {xs : List Value} {row : Option Nat} (h : V.ownsRow base 3 1 v n xs) (hg : V.grownBy Y row) (hr : ∀ r, row = some r → ∃ o : Obj, V.heap[r]? = some o ∧ o.isCells = false) : Y.ownsRow base 3 1 v n xs := by
  refine ⟨h.1, ?_⟩
  rcases h.2 with h2 | ⟨gr, cap, cur, h1, h2, h3, h4⟩
  · exact .inl h2
  · refine .inr ⟨gr, cap, cur, h1, h2, (hg.block gr (Array.getElem?_eq_some_iff.1 h3).1 (fun e => ?_)).trans h3, h4⟩
    obtain ⟨o, ho, hc⟩ := hr _ e.symm
    rw [h3] at ho
    cases ho
    cases hc
theorem rowI_set {V : World} {base n : Nat} {v v' : Value} {xs : List Value} {p : Addr} (h : V.ownsRow base 3 1 v n xs) (hp : p.block < base) : (V.setCell p v').ownsRow base 3 1 v n xs := by
  refine ⟨h.1, ?_⟩
  rcases h.2 with h2 | ⟨gr, cap, cur, h1, h2, h3, h4⟩
  · exact .inl h2
  · exact .inr ⟨gr, cap, cur, h1, h2, (Below.heap_setCell _ _ _ _ (by omega)).trans h3, h4⟩
theorem rowI_cells {V : World} {base : Nat} {v : Value} {L : List Int} (h : V.ownsRow base 3 1 v L.length (L.map encI)) : ∃ A c, v = .slice A L.length c ∧ (L.length = 0 ∨ ∃ gr, A = some ⟨gr, 0, none⟩ ∧ base ≤ gr ∧ gr < V.heap.size ∧ ∀ X : World, X.heap[gr]? = V.heap[gr]? → ∀ i (hi : i < L.length), X.cell? ⟨gr, i, none⟩ = some (.int .i64 L[i])) := by
  rcases h.2 with ⟨h1, h2⟩ | ⟨gr, cap, cur, h1, h2, h3, h4, h5, h6, h7⟩
  · exact ⟨none, 0, by rw [h1, h2], .inl h2⟩
  · refine ⟨_, _, h1, .inr ⟨gr, rfl, h2, (Array.getElem?_eq_some_iff.1 h3).1, fun X hX i hi => ?_⟩⟩
    have hz : (L.map encI)[i]? = some (.int .i64 L[i]) := by simp [hi, encI]
    rw [← h7, List.getElem?_take_of_lt (by omega), Array.getElem?_toList] at hz
    unfold World.cell?
    dsimp only
    rw [hX, h3]
    simp [hz]
theorem rowI_grow {X : World} {base j : Nat} {v' : Value} {pre : List Int} {x : Int} (hj : pre.length = j) (h : X.ownsRow base 3 1 v' (j + 1) (pre.map encI ++ [.int .i64 x])) :
    ∃ A' c', v' = .slice A' (j + 1) c' ∧ X.ownsRow base 3 1 v' (pre ++ [x]).length ((pre ++ [x]).map encI) := by
  have h2 : X.ownsRow base 3 1 v' (pre ++ [x]).length ((pre ++ [x]).map encI) := by
    rw [List.length_append, List.map_append, hj]
    exact h
  obtain ⟨A', c', hv, _⟩ := rowI_cells h2
  rw [List.length_append, hj] at hv
  exact ⟨A', c', hv, h2⟩
set_option maxRecDepth 100000 in
set_option maxHeartbeats 4000000 in
theorem appseqI_calls (w : World) (p1 p2 p3 r g : Nat) (L : List CirP) (t p : Int)
    (c1 : w.cell? ⟨p1, 0, none⟩ = some (.pointer (some ⟨r, 0, none⟩))) (c2 : w.cell? ⟨p2, 0, none⟩ = some (.int .i64 t)) (c3 : w.cell? ⟨p3, 0, none⟩ = some (.int .i64 p)) (cr : w.cell? ⟨r, 3, none⟩ = some (.pointer (some ⟨g, 0, none⟩)))
    (hA : ∀ V, Below w.heap.size w V → Calls Try.prog 37 #[.pointer (some ⟨g, 0, none⟩), .int .i64 t] V fun e w' => ∃ v, e = .returned v ∧ w'.ownsRow V.heap.size 50 6 v L.length (flatC L) ∧ Below V.heap.size V w') (hl : L.length ≤ 10000) :
    Calls Try.prog 66 #[.slice none 0 0, .func (.func 67) #[] #[.pointer (some ⟨p1, 0, none⟩), .pointer (some ⟨p2, 0, none⟩), .pointer (some ⟨p3, 0, none⟩)]] w fun e w' => ∃ v, e = .returned v ∧ w'.ownsRow w.heap.size 3 1 v (endsL L p).length ((endsL L p).map encI) ∧ Below w.heap.size w w' := by
  have l1 := World.block_lt_of_cell? _ _ c1
  have l2 := World.block_lt_of_cell? _ _ c2
  have l3 := World.block_lt_of_cell? _ _ c3
  have lr := World.block_lt_of_cell? _ _ cr
  obtain ⟨W0, hW0⟩ : ∃ W0, w.alloc (.cells #[.slice none 0 0] 54) = W0 := ⟨_, rfl⟩
  have hbw : Below w.heap.size w W0 := by rw [← hW0]; exact (Below.refl _ _).alloc (Nat.le_refl _) _
  have hs0 : W0.heap.size = w.heap.size + 1 := by rw [← hW0]; simp
  have B0 : Boxed W0 w.heap.size 54 (.slice none 0 0) := by rw [← hW0]; exact Boxed.new w _ _
  have e1 := (hbw.cell (p := ⟨p1, 0, none⟩) l1).trans c1
  have e2 := (hbw.cell (p := ⟨p2, 0, none⟩) l2).trans c2
  have e3 := (hbw.cell (p := ⟨p3, 0, none⟩) l3).trans c3
  have er := (hbw.cell (p := ⟨r, 3, none⟩) lr).trans cr
  obtain ⟨S, hS⟩ : ∃ S : Nat → Prop, S = fun b => b < w.heap.size := ⟨_, rfl⟩
  have hSlt : ∀ b, S b → b < W0.heap.size := fun b hb => by rw [hS] at hb; omega
  have hSn : ¬ S w.heap.size := by rw [hS]; exact Nat.lt_irrefl _
  have hSy : ∀ b, b < w.heap.size → S b := fun b h1 => by rw [hS]; exact h1
  have hSz : ∀ b, S b → b < w.heap.size := fun b hb => by rw [hS] at hb; exact hb
  clear hS
  have seq := of_told 7 (by omega) S p1 p2 p3 r g L t p W0 (hSy p3 l3) hSlt e1 e2 e3 er (fun V hV => hA V (hbw.trans (hV.mono hbw.size))) hl
  have HBW := Lib.hid hbw
  have HB0 := Lib.hid B0
  have Hl := Lib.hid hl
  have HS0 := Lib.hid hs0
  clear hbw B0 hl c1 c2 c3 cr e1 e2 e3 er l1 l2 l3 lr hs0 hA
  refine (callsIn_wide (n := 8)).1 ?_
  refine callsIn_of_wp_marks Try.func66 rfl trivial (wpIn_wide.2 ?_) rfl
  simp only [Try.ntmps66, List.size_toArray, List.length_cons, List.length_nil, Nat.reduceAdd, Nat.reduceSub, Array.replicate_succ, Array.replicate_zero, List.push_toArray, List.append_toArray, List.nil_append, List.cons_append]
  go_wp2
  clear hW0
  refine (wpIn_wide (n := 8)).1 ?_
  refine range_told rfl (by omega) (gf := 67) (lb := #[.pointer (some ⟨p1, 0, none⟩), .pointer (some ⟨p2, 0, none⟩), .pointer (some ⟨p3, 0, none⟩)]) rfl trivial (enters_of Try.func67 (by kernel_rfl) rfl)
    seq KpI.trans (fun W l o o' hl h hc _ => KpI.put W l o o' (fun hb => by have := hSlt l hb; omega) h hc) (Below.refl _ _) (fun _ => rfl) (fun _ _ _ _ _ _ _ _ h => h)
    (fun pre V => KpI S W0 V ∧ (∃ v, Boxed V w.heap.size 54 v ∧ V.ownsRow W0.heap.size 3 1 v pre.length (pre.map encI)) ∧ Below w.heap.size w V)
    ?hI1 ?h01 ?a11 ?assign1 ?body1 ?done1
  case assign1 =>
    intro l x W K hK
    dsimp only at hK ⊢
    gi_wp2
    exact hK
  case hI1 =>
    rintro s X Y row ⟨h1, ⟨v, h3, h4⟩, h5⟩ hg hr
    exact ⟨h1.grown hSlt hg (fun r e => ⟨fun hb => by have := (hr r e).1; have := hSlt r hb; omega, (hr r e).2⟩), ⟨v, boxed_own2 h3 hg (fun r e => (hr r e).2), rowI_own h4 hg (fun r e => (hr r e).2)⟩, h5.grown hg h5.size (fun k e => by have := (hr k e).1; have := HBW.out.size; omega)⟩
  case h01 => exact ⟨KpI.refl _ _, ⟨_, HB0.out, rfl, .inl ⟨rfl, rfl⟩⟩, HBW.out⟩
  case body1 =>
    rintro lp pre x V ⟨hk, ⟨v, b10, hrow⟩, hbl⟩ hpl
    obtain ⟨Av, cv, hv, _⟩ := rowI_cells hrow
    obtain ⟨j, hj⟩ : ∃ j, pre.length = j := ⟨_, rfl⟩
    rw [hj] at hv hrow hpl
    subst hv
    obtain ⟨i0', hi0, hz0, hsz0, hby0⟩ := info_parts infoI
    have HI0 := Lib.hid hi0
    have HZ0 := Lib.hid hz0
    have HS1 := Lib.hid hsz0
    have HY0 := Lib.hid hby0
    have HROW := Lib.hid hrow
    have HJ := Lib.hid hj
    have Hk := Lib.hid hk
    have HSn := Lib.hid hSn
    have HSl := Lib.hid hSlt
    have HBL := Lib.hid hbl
    have B10 := Lib.hid b10
    have c10 := b10.cell
    have f10 := b10.frozen
    have HNEW := Lib.hid (show (V.alloc (.cells #[.int .i64 x] 3)).heap[V.heap.size]? = some (.cells #[.int .i64 x] 3 (0, 0)) from new_cellsN V _ _)
    have HGV := Lib.hid (show V.grownBy (V.alloc (.cells #[.int .i64 x] 3)) none from World.grownBy_alloc V _ none)
    have HNE2 := Lib.hid (show w.heap.size < W0.heap.size ∧ W0.heap.size ≤ V.heap.size from ⟨by have := HS0.out; omega, hk.1.1⟩)
    have hpl2 : j ≤ 10000 := by omega
    clear hk hSn hSy hSlt seq hj b10 hbl hpl hrow hi0 hz0 hsz0 hby0
    gi_wp2_with (gi_at_builtin; refine wpListIn_append_own _ rfl (.tmp 8) (.tmp 10) 54 rfl W0.heap.size 3 i0' (.int .i64 0) 1 8 Try.underlying54 HI0.out HZ0.out HS1.out HY0.out rfl (by decide) (.slice Av j cv) j (pre.map encI) rfl (HROW.out.alloc _) ⟨V.heap.size, 0, none⟩ 1 1 [.int .i64 x] rfl rfl (World.news_of_block HNEW.out) (by simp [Value.oneCell']) (by unfold maxLen; omega) (by omega) (by have := HNE2.out; simp; omega) ?_; intro v' w1' hown' hgrow _; obtain ⟨A', c', hv', hown2⟩ := rowI_grow HJ.out hown'; have hgv := grown_after HGV.out hgrow; subst hv'; have e10 := (hgv.block w.heap.size (by have := HNE2.out; omega) (fun e => by have := (rowI_block HROW.out _ e.symm).1; have := HNE2.out; omega)).trans B10.out; have E10 : Boxed w1' w.heap.size 54 (.slice Av j cv) := e10; have HE10 := Lib.hid E10; have c10 := E10.cell; have f10 := E10.frozen; have HOWN := Lib.hid hown2; have HGV2 := Lib.hid hgv; clear hown' hown2 hgrow hgv e10 E10)
    have hne2 := HNE2.out
    have hkS : KeepS S V w1' := ⟨HGV2.out.size, fun b hb => HGV2.out.block b (Nat.lt_of_lt_of_le (HSl.out b hb) hne2.2) (fun e => by have := (rowI_block HROW.out _ e.symm).1; have := HSl.out b hb; omega)⟩
    have hkS2 : KpI S V (w1'.setCell ⟨w.heap.size, 0, none⟩ (.slice A' (j + 1) c')) := ⟨hkS.trans (KeepS.setCell (p := ⟨w.heap.size, 0, none⟩) HSn.out (.slice A' (j + 1) c')), fun b cs hb => by
      have hb1 : b ≠ w.heap.size := fun e => by
        have h2 : V.heap[w.heap.size]? = _ := B10.out
        rw [e, h2] at hb
        injection hb with hb
        injection hb with _ hb
        exact absurd hb (by decide)
      rw [Below.heap_setCell _ _ _ _ hb1]
      refine HGV2.out.block b (Array.getElem?_eq_some_iff.1 hb).1 (fun e => ?_)
      obtain ⟨_, cur, h2⟩ := rowI_block HROW.out b e.symm
      rw [h2] at hb
      injection hb with hb
      injection hb with _ hb
      exact absurd hb (by decide)⟩
    refine ⟨(KeepsOthers.of_grownBy HGV2.out (fun k o e hk => ?_)).trans (KeepsOthers.setCell _ _ _), hkS2, Hk.out.trans hkS2, ⟨_, HE10.out.set _, (by have h := rowI_set (v' := .slice A' (j + 1) c') (p := ⟨w.heap.size, 0, none⟩) HOWN.out (by show w.heap.size < _; omega); rw [List.length_append, List.map_append] at h; exact h)⟩, (HBL.out.grown HGV2.out HBL.out.size (fun k e => by have := (rowI_block HROW.out k e).1; omega)).setCell (p := ⟨w.heap.size, 0, none⟩) (Nat.le_refl _) _⟩
    obtain ⟨cur, hc⟩ := (rowI_block HROW.out k e).2
    rw [hc] at hk
    injection hk with hk
    rw [← hk]
    rfl
  case done1 =>
    rintro D1 xs V hD hxs ⟨hk, ⟨v, b10, hrow⟩, hbl⟩ hK2
    have hxs : xs = endsL L p := hxs
    rw [hxs] at hrow
    clear hxs
    have c9 := b10.cell
    have HR := Lib.hid hrow
    have HBL := Lib.hid hbl
    have HD := Lib.hid hD
    clear hk seq hrow hbl b10
    go_wp2
    refine ⟨by simp, .inl ⟨_, _, rfl, run_takeDeferred hK2, ?_⟩⟩
    refine ⟨v, ?_, v, rfl, ?_, ?_⟩
    · simp [results, Try.f66, go_sem]
    · exact own_lower (rowI_own HR.out (grownBy_putObj' V D1 _) (fun r e => by cases e; exact ⟨_, hK2, rfl⟩)) (by have := HS0.out; omega)
    · exact HBL.out.trans (belowK_b (w := w) (Nat.le_refl _) _ D1 _ _ (by have := HD.out; have := HS0.out; omega) hK2 rfl rfl)
theorem collectI_calls (w : World) (p1 p2 p3 r g : Nat) (L : List CirP) (t p : Int)
    (c1 : w.cell? ⟨p1, 0, none⟩ = some (.pointer (some ⟨r, 0, none⟩))) (c2 : w.cell? ⟨p2, 0, none⟩ = some (.int .i64 t)) (c3 : w.cell? ⟨p3, 0, none⟩ = some (.int .i64 p)) (cr : w.cell? ⟨r, 3, none⟩ = some (.pointer (some ⟨g, 0, none⟩)))
    (hA : ∀ V, Below w.heap.size w V → Calls Try.prog 37 #[.pointer (some ⟨g, 0, none⟩), .int .i64 t] V fun e w' => ∃ v, e = .returned v ∧ w'.ownsRow V.heap.size 50 6 v L.length (flatC L) ∧ Below V.heap.size V w') (hl : L.length ≤ 10000) :
    Calls Try.prog 40 #[.func (.func 67) #[] #[.pointer (some ⟨p1, 0, none⟩), .pointer (some ⟨p2, 0, none⟩), .pointer (some ⟨p3, 0, none⟩)]] w fun e w' => ∃ v, e = .returned v ∧ w'.ownsRow w.heap.size 3 1 v (endsL L p).length ((endsL L p).map encI) ∧ Below w.heap.size w w' := by
  have K := Lib.hid (appseqI_calls w p1 p2 p3 r g L t p c1 c2 c3 cr hA hl)
  clear c1 c2 c3 cr hA hl
  go_enter Try.func40, Try.ntmps40
  go_wp2_with (go_at_call 66; refine K.out.mono ?_; rintro e w1 ⟨v, rfl, hR, hb⟩)
  go_ret
  exact ⟨v, rfl, hR, hb⟩
end Go.Proofs.Yteajlffchdbkjaa.Re
namespace Go.Proofs.Yteajlffchdbkjaa.Re
open Go.RowKit Go.Maps Go.Shelf Go.Proofs.Yteajlffchdbkjaa.Rv Go.Proofs.Yteajlffchdbkjaa.Ci Go.Proofs.Yteajlffchdbkjaa.Sp Go.Proofs.YteajlffchdbkjaaW.PrintWords Go.Proofs.YteajlffchdbkjaaW.PrintLast Go.Proofs.YteajlffchdbkjaaW.PrintMore
set_option linter.unusedVariables false
set_option linter.unusedSimpArgs false
attribute [local go_sem] Oper.semAt_some
/-! ### plain -/
def closesL (C : List CirP) (xs : List Int) : List CirP := xs.foldl (fun L no => (closeG L no).2) C
theorem closesL_snoc (C : List CirP) (xs : List Int) (x : Int) : closesL C (xs ++ [x]) = (closeG (closesL C xs) x).2 := by unfold closesL; rw [List.foldl_append]; rfl
theorem closeG_mem {L : List CirP} {no : Int} {c : CirP} (h : c ∈ (closeG L no).2) : c ∈ L := by
  unfold closeG at h
  split at h
  · exact h
  · exact List.mem_of_mem_eraseIdx h
theorem closeG_len (L : List CirP) (no : Int) : (closeG L no).2.length ≤ L.length := by
  unfold closeG
  split
  · exact Nat.le_refl _
  · dsimp only
    rw [List.length_eraseIdx]
    split <;> omega
theorem closesL_mem : ∀ (xs : List Int) {C : List CirP} {c : CirP}, c ∈ closesL C xs → c ∈ C
  | [], _, _, h => h
  | x :: r, _, _, h => closeG_mem (closesL_mem r h)
theorem closesL_len : ∀ (xs : List Int) (C : List CirP), (closesL C xs).length ≤ C.length
  | [], C => Nat.le_refl _
  | x :: r, C => Nat.le_trans (closesL_len r (closeG C x).2) (closeG_len C x)
def Apart (L : List CirP) : Prop := L.Pairwise (fun a b => a.1 ≠ b.1)
theorem closeG_at {A r : List CirP} {c : CirP} (h : Apart (A ++ c :: r)) : (closeG (A ++ c :: r) c.1).2 = A ++ r := by
  have hA : ∀ a ∈ A, a.1 ≠ c.1 := fun a ha => (List.pairwise_append.1 h).2.2 a ha c (by simp)
  rcases posC_spec (A ++ c :: r) c.1 with ⟨_, hn⟩ | ⟨k, hk, hp, h1, h2⟩
  · exact absurd rfl (hn c (by simp))
  · have hkl : k = A.length := by
      rcases Nat.lt_trichotomy k A.length with e | e | e
      · rw [List.getElem_append_left e] at h1
        exact absurd h1 (hA _ (List.getElem_mem e))
      · exact e
      · have := h2 A.length e
        rw [List.getElem_append_right (Nat.le_refl _)] at this
        simp at this
    unfold closeG
    rw [hp, if_neg (by omega)]
    dsimp only
    rw [Int.toNat_natCast, hkl, List.eraseIdx_append_of_length_le (Nat.le_refl _)]
    simp
theorem closes_all (p : Int) : ∀ (r A : List CirP), Apart (A ++ r) → closesL (A ++ r) (endsL r p) = A ++ r.filter (fun c => !isEnd p c)
  | [], A, _ => by simp [closesL, endsL]
  | c :: r, A, h => by
    cases hc : isEnd p c with
    | true =>
      have e1 : endsL (c :: r) p = c.1 :: endsL r p := by simp [endsL, hc]
      have hA : Apart (A ++ r) := by
        unfold Apart at h ⊢
        exact h.sublist (List.Sublist.append_left (List.sublist_cons_self c r) A)
      rw [e1, List.filter_cons, hc]
      show closesL (closeG (A ++ c :: r) c.1).2 (endsL r p) = _
      rw [closeG_at h, closes_all p r A hA]
      simp
    | false =>
      have e1 : endsL (c :: r) p = endsL r p := by simp [endsL, hc]
      have e2 : A ++ c :: r = (A ++ [c]) ++ r := by simp
      rw [e1, e2, closes_all p r (A ++ [c]) (by rw [← e2]; exact h), List.filter_cons, hc]
      simp
def LeaveF (s : RelS) (t p : Int) : RelS := { s with now := t, R := delL (overL s.R t) p, tR := t, C := s.C.filter (fun c => !isEnd p c), tC := t }
theorem rinv_leave {k : Nat} {s : RelS} (h : RInv k s) {t p : Int} (h4 : s.now ≤ t) (h5 : t ≤ 1099511627776) : RInv k (LeaveF s t p) := by
  have hc := h.clen
  have h1 : (delL (overL s.R t) p).length ≤ (overL s.R t).length := List.length_filter_le _ _
  have h2 := overL_len s.R t
  have h3 := h.rlen
  have h6 : (s.C.filter (fun c => !isEnd p c)).length ≤ s.C.length := List.length_filter_le _ _
  exact ⟨h.own, h.may, ris_filter (ris_filter h.ris _) _, by show (delL (overL s.R t) p).length ≤ k; omega, fun q hq => h.rok q (overL_mem (List.mem_filter.1 hq).1).1, by show s.G.length + (s.C.filter (fun c => !isEnd p c)).length ≤ k; omega, h.last, fun c hc => h.cok c (List.mem_filter.1 hc).1, h.nlen, Int.le_refl t, Int.le_refl t, ⟨Int.le_trans h.now.1 h4, h5⟩⟩
/-! ### calls of the tables, the others beside them -/
theorem drop_sep {w : World} {gR bR nR : Nat} {l : LimV} {R : List HeldP} {tR : Int} {X Y : Ob} {av : Nat → Prop} (h : Sep w [obR gR bR nR l R tR, X, Y] av) {t p : Int} (hp : I64 p) (h1 : tR ≤ t) (h2 : t ≤ 1099511627776) :
    Calls Try.prog 39 #[.pointer (some ⟨gR, 0, none⟩), .int .i64 t, .int .i64 p] w fun e w' => e = .returned (.bool (hasL (overL R t) p)) ∧ Sep w' [obR gR bR nR l (delL (overL R t) p) t, X, Y] av ∧ KpA av w w' := by
  obtain ⟨_, hT, _⟩ := Sep.head h
  have K := drop_calls w gR bR nR l R tR t p hT hp
  rw [onT_ok h1 h2] at K
  refine K.mono ?_
  rintro e w' ⟨rfl, hT', ht⟩
  have h2 := touch_turn h hT' ht
  exact ⟨rfl, h2.1, h2.2⟩
theorem close_sep {w : World} {gC : Nat} {l : LimV} {C G : List CirP} {last t : Int} {X Y : Ob} {av : Nat → Prop} (h : Sep w [X, Y, obC gC l C G last t] av) (no : Int) (hl : (G.length + C.length + 1) * 48 ≤ 140737488355328) (hm : C.length ≤ 1000000) (ht : t ≤ 1099511627776) (hall : ∀ c ∈ C, t < c.2.2.2.1) :
    Calls Try.prog 42 #[.pointer (some ⟨gC, 0, none⟩), .int .i64 t, .int .i64 no] w fun e w' => e = .returned (.bool (closeG C no).1) ∧ Sep w' [X, Y, obC gC l (closeG C no).2 G last t] av ∧ KpA av w w' := by
  obtain ⟨hlv, hgn⟩ := live_all hall
  refine cir_sep h (fun vl vg hC => ?_)
  have K := close_calls w gC vl vg l C G last t t no hC hl hm
  rw [onT_ok (Int.le_refl t) ht, hlv, hgn, List.append_nil] at K
  exact K
/-! ### Leave -/
def LeavePost (W : World) (base r gN gR bR nR gC : Nat) (s : RelS) (av : Nat → Prop) (t p : Int) (e : Ending) (w' : World) : Prop :=
  ∃ v sz, e = .returned v ∧ w'.ownsRow sz 3 1 v (endsL s.C p).length ((endsL s.C p).map encI) ∧ W.heap.size ≤ sz ∧
    RelW w' base r gN gR bR nR gC (LeaveF s t p) (fun k => av k ∨ v.ownBlock = some k) ∧ KpA av W w'
set_option maxRecDepth 100000 in
set_option maxHeartbeats 4000000 in
theorem rleave_calls (W : World) (base r gN gR bR nR gC k : Nat) (s : RelS) (av : Nat → Prop) (t p : Int) (h : RelW W base r gN gR bR nR gC s av) (hi : RInv k s) (hk : k ≤ 10000) (h4 : s.now ≤ t) (h5 : t ≤ 1099511627776) (hp : I64 p) (hT : s.tC = t) (hall : ∀ c ∈ s.C, t < c.2.2.2.1) (hd : Apart s.C) :
    Calls Try.prog 22 #[.pointer (some ⟨r, 0, none⟩), .int .i64 t, .int .i64 p] W (LeavePost W base r gN gR bR nR gC s av t p) := by
  have hr := h.rel
  have KO := Lib.hid (ron_yes W r _ gN gR gC _ t hr h4 h5)
  obtain ⟨W1, hW1⟩ : ∃ X, W.setCell ⟨r, 4, none⟩ (.int .i64 t) = X := ⟨_, rfl⟩
  have h1 := h.on t
  rw [hW1] at h1 KO
  have HR1 := Lib.hid h1
  have hr1 := h1.1.rel
  obtain ⟨_, _, e2, e3, _⟩ := relC_cells hr1
  have HREL := Lib.hid hr1
  have hb0 : (s.G.length + s.C.length + 1) * 48 ≤ 140737488355328 := Nat.le_trans (Nat.mul_le_mul_right 48 (Nat.succ_le_succ (Nat.le_trans hi.clen hk))) (by decide)
  have HL1 := Lib.hid hb0
  have HL2 := Lib.hid (show s.C.length ≤ 10000 from Nat.le_trans (Nat.le_add_left _ _) (Nat.le_trans hi.clen hk))
  have HT := Lib.hid (show s.tR ≤ t ∧ 0 ≤ t ∧ t ≤ 1099511627776 from ⟨Int.le_trans hi.tR h4, Int.le_trans hi.now.1 h4, h5⟩)
  have HALL := Lib.hid hall
  have HD := Lib.hid hd
  have HP := Lib.hid hp
  have hs1 := h1.1.tail
  dsimp only at hs1
  rw [hT] at hs1
  have HS1 := Lib.hid hs1
  clear h hi h4 h5 hr h1 hW1 hr1 hb0 hall hd hp hs1
  go_enter Try.func22, Try.ntmps22
  go_upto_region 3 with (go_at_call 26; refine KO.out.mono ?_; rintro e w1 ⟨rfl, rfl⟩)
  go_upto_region 4 with (go_at_call 39; refine (drop_sep HS1.out HP.out HT.out.1 HT.out.2.2).mono ?_; rintro e w2 ⟨rfl, hs2, hk2⟩; have HS2 := Lib.hid hs2; have HK2 := Lib.hid hk2; clear hs2 hk2)
  have hr2 := (HK2.out.2.2.2.2 r (.inr rfl)).trans HREL.out
  have HREL2 := Lib.hid hr2
  clear e2 e3 hr2
  go_upto_region 5 with (first
    | (go_at_call 41; refine (of_calls w2 r t p).mono ?_; rintro e w3 ⟨p1, p2, p3, rfl, a1, a2, a3, g1, g2, g3, hb3⟩; have HA3 := Lib.hid (And.intro a1 (And.intro a2 a3)); have HB3 := Lib.hid hb3; have HS3 := Lib.hid (HS2.out.step hb3); have hr3 := (hb3.block r (HS2.out.lt r (.inr rfl))).trans HREL2.out; have HREL3 := Lib.hid hr3; clear a1 a2 a3 g1 g2 g3 hb3 hr3)
    | (go_at_call 40; refine (collectI_calls w3 p1 p2 p3 r gC s.C t p HA3.out.1 HA3.out.2.1 HA3.out.2.2 (relC_cells HREL3.out).2.2.2.1 (fun V hV => by obtain ⟨ok, ⟨vl, vg, hC, _⟩, _⟩ := rot3 HS3.out; exact all_same V gC vl vg s.l s.C s.G s.last t (hC.below hV) HL1.out (Nat.le_trans HL2.out (by decide)) HT.out.2 (fun i hi => HALL.out _ (List.getElem_mem hi))) HL2.out).mono ?_; rintro e w4 ⟨v, rfl, ho4, hb4⟩; have HO4 := Lib.hid ho4; have HB4 := Lib.hid hb4; have HS4 := Lib.hid (HS3.out.step hb4); have hr4 := (hb4.block r (HS3.out.lt r (.inl (.inr rfl)))).trans HREL3.out; have HREL4 := Lib.hid hr4; clear ho4 hb4 hr4))
  obtain ⟨xs, hxs⟩ : ∃ xs, endsL s.C p = xs := ⟨_, rfl⟩
  have ho := HO4.out
  rw [hxs] at ho
  obtain ⟨A, c, hv, hc⟩ := rowI_cells ho
  obtain ⟨n, hn⟩ : ∃ n, xs.length = n := ⟨_, rfl⟩
  rw [hn] at hv
  subst hv
  have HXS := Lib.hid hxs
  have HN := Lib.hid hn
  have HC := Lib.hid hc
  have hnl : n ≤ 10000 := by rw [← hn, ← hxs]; unfold endsL; rw [List.length_map]; exact Nat.le_trans (List.length_filter_le _ _) HL2.out
  obtain ⟨ex, hex⟩ : ∃ ex : Nat → Prop, ex = fun k => (((av k ∨ k = r) ∨ (w2.heap.size ≤ k ∧ k < w3.heap.size)) ∨ (w3.heap.size ≤ k ∧ k < w4.heap.size)) := ⟨_, rfl⟩
  have HEX := Lib.hid hex
  have hs4 := HS4.out
  rw [← hex] at hs4
  have HS4' := Lib.hid hs4
  clear hxs hn hc ho hex hs4
  go_upto_region 6 with fail
  go_loopw [28] (fun x28 wr => ∃ i : Nat, x28 = .int .i64 i ∧ i ≤ n ∧ Hid (Sep wr [obR gR bR nR s.l (delL (overL s.R t) p) t, obN base gN s.N, obC gC s.l (closesL s.C (xs.take i)) s.G s.last t] ex) ∧ Hid (KpA ex w4 wr)) (fun x28 _ => n - (intOf x28).toNat)
  case atStart => exact ⟨0, rfl, Nat.zero_le _, HS4', Lib.hid (KpA.refl _ _)⟩
  case round =>
    obtain ⟨i, rfl, hin, HSr, HKr⟩ := hrel
    by_cases hlt : i < n
    · have b1 : decide ((i : Int) < (n : Int)) = true := decide_eq_true (by omega)
      have hiL : i < xs.length := by rw [HN.out]; exact hlt
      have hltI : (i : Int) < (n : Int) := by omega
      obtain ⟨gr, rfl, hx⟩ : ∃ gr, A = some ⟨gr, 0, none⟩ ∧ wr.cell? ⟨gr, i, none⟩ = some (.int .i64 xs[i]) := by
        rcases HC.out with h | ⟨gr, h1, h2, h3, h4⟩
        · omega
        · exact ⟨gr, h1, h4 wr (HKr.out.2.2.2.2 gr (by rw [HEX.out]; exact .inr ⟨h2, h3⟩)) i hiL⟩
      obtain ⟨x, hxv⟩ : ∃ x, xs[i] = x := ⟨_, rfl⟩
      rw [hxv] at hx
      have hr5 := (HKr.out.2.2.2.2 r (by rw [HEX.out]; exact .inl (.inl (.inr rfl)))).trans HREL4.out
      have e3 := (relC_cells hr5).2.2.2.1
      have htk : xs.take (i + 1) = xs.take i ++ [x] := by rw [List.take_add_one, List.getElem?_eq_getElem hiL, hxv]; rfl
      have HTK := Lib.hid htk
      have KC := Lib.hid (close_sep HSr.out x (Nat.le_trans (Nat.mul_le_mul_right 48 (Nat.succ_le_succ (Nat.add_le_add_left (closesL_len _ _) _))) HL1.out) (Nat.le_trans (closesL_len _ _) (Nat.le_trans HL2.out (by decide))) HT.out.2.2 (fun c hc => HALL.out c (closesL_mem _ hc)))
      clear hr5 htk hxv hiL
      go_wp2_with (go_at_call 42; refine KC.out.mono ?_; rintro e w5 ⟨rfl, hs5, hk5⟩; have HS5 := Lib.hid hs5; have HK5 := Lib.hid (HKr.out.trans hk5 (fun _ e => e)); clear hs5 hk5)
      go_roundw
      case rel => exact ⟨i + 1, by go_num, by omega, Lib.hid (by rw [HTK.out, closesL_snoc]; exact HS5.out), HK5⟩
      case measure => simp [intOf]; omega
    · have b1 : decide ((i : Int) < (n : Int)) = false := decide_eq_false (by omega)
      go_wp2
      refine bodyPost_ret (v := .slice A n c) (by simp [results, Try.results22, go_sem]) rfl ?_
      have hcl : closesL s.C (xs.take i) = s.C.filter (fun c => !isEnd p c) := by
        rw [List.take_of_length_le (by rw [HN.out]; omega), ← HXS.out]
        exact closes_all p s.C [] HD.out
      have hs := HSr.out
      rw [hcl] at hs
      have hk2 : KpA (fun k => av k ∨ k = r) W1 w2 := HK2.out
      have hk3 : KpA (fun k => av k ∨ k = r) W1 w3 := hk2.trans (KpA.below (av := fun k => av k ∨ k = r) HB3.out (fun i hi => HS2.out.lt i hi)) (fun _ e => e)
      have hk4 : KpA (fun k => av k ∨ k = r) W1 w4 := hk3.trans (KpA.below (av := fun k => av k ∨ k = r) HB4.out (fun i hi => HS3.out.lt i (.inl hi))) (fun _ e => e)
      have hkr : KpA (fun k => av k ∨ k = r) W1 wr := hk4.trans HKr.out (fun _ e => by rw [HEX.out]; exact .inl (.inl e))
      have h12 := hk2.2.2.2.1
      have h23 := HB3.out.size
      have h34 := HB4.out.size
      have hrl : r < W1.heap.size := (Array.getElem?_eq_some_iff.1 HREL.out).1
      have hv1 : ∀ b, (Value.slice A n c).ownBlock = some b → w3.heap.size ≤ b ∧ b < w4.heap.size := fun b hb => ⟨(rowI_block HO4.out b hb).1, own_lt HO4.out hb⟩
      have h01 := HR1.out.2.2.2.2.1
      refine ⟨.slice A n c, w3.heap.size, rfl, own_stays HO4.out (fun b hb => HKr.out.2.2.2.2 b (by rw [HEX.out]; exact .inr (hv1 b hb))), by omega, ?_, HR1.out.2.trans hkr (fun _ e => .inl e)⟩
      refine HR1.out.1.back (s' := LeaveF s t p) (ex := fun k => (Value.slice A n c).ownBlock = some k) (hkr.2.2.2.2 r (.inr rfl)) rfl rfl (hs.sub (fun k hk => ?_)) (fun k hk e => ?_)
      · rw [HEX.out]
        rcases hk with hk | hk
        · exact .inl (.inl hk)
        · exact .inr (hv1 k hk)
      · have := hv1 k hk; omega
def LeaveK (k : Nat) (w : World) (r gN : Nat) (s : RelS) (av : Nat → Prop) (t p : Int) (e : Ending) (w' : World) : Prop :=
  ∃ v sz, e = .returned v ∧ w'.ownsRow sz 3 1 v (endsL s.C p).length ((endsL s.C p).map encI) ∧ w.heap.size ≤ sz ∧ RelK k w' r gN (LeaveF s t p) (fun k => av k ∨ v.ownBlock = some k) ∧ KpA av w w'
theorem leave_k {k : Nat} {w : World} {r gN : Nat} {s : RelS} {av : Nat → Prop} (h : RelK k w r gN s av) (hk : k ≤ 9000) (t p : Int) (h4 : s.now ≤ t) (h5 : t ≤ 1099511627776) (hp : I64 p) (hT : s.tC = t) (hall : ∀ c ∈ s.C, t < c.2.2.2.1) (hd : Apart s.C) :
    Calls Try.prog 22 #[.pointer (some ⟨r, 0, none⟩), .int .i64 t, .int .i64 p] w (LeaveK k w r gN s av t p) := by
  obtain ⟨base, gR, bR, nR, gC, h1, h2, h3⟩ := h
  refine (rleave_calls w base r gN gR bR nR gC k s av t p h1 h2 (by omega) h4 h5 hp hT hall hd).mono ?_
  rintro e w' ⟨v, sz, a1, a2, a3, a4, a5⟩
  exact ⟨v, sz, a1, a2, a3, ⟨base, gR, bR, nR, gC, a4, rinv_leave h2 h4 h5, h3⟩, a5⟩
end Go.Proofs.Yteajlffchdbkjaa.Re
namespace Go.Proofs.Yteajlffchdbkjaa.Re
open Go.RowKit Go.Proofs.YteajlffchdbkjaaW.PrintWords
set_option linter.unusedVariables false
set_option linter.unusedSimpArgs false
theorem eqArr2 (d : Nat) (w : World) (a1 a2 b1 b2 : Int) : (Op.equalIn (d + 2) 48 (.agg #[.int .i64 a1, .int .i64 a2]) (.agg #[.int .i64 b1, .int .i64 b2])).run Try.prog w = .ok (a1 == b1 && a2 == b2) w := by
  have hu : Try.prog.underlying 48 = some (.array 2 3) := Try.underlying48
  have hs : (sizeOf 3).run Try.prog w = .ok 1 w := by go_simp
  rw [Op.equalIn]
  simp only [Sem.run_bind, run_underlying hu, Result.andThen_ok]
  rw [hs]
  simp only [Result.andThen_ok, Std.Legacy.Range.forIn_eq_forIn_range', Std.Legacy.Range.size, List.range', List.forIn_cons, List.forIn_nil]
  have p1 : ∀ x1 x2 : Int, (part 3 #[Value.int .i64 x1, Value.int .i64 x2] (0 * 1)).run Try.prog w = .ok (.int .i64 x1) w := fun x1 x2 => by go_simp
  have p2 : ∀ x1 x2 : Int, (part 3 #[Value.int .i64 x1, Value.int .i64 x2] ((0 + 1) * 1)).run Try.prog w = .ok (.int .i64 x2) w := fun x1 x2 => by go_simp
  have e1 : ∀ x1 x2 : Int, (Op.equalIn (d + 1) 3 (.int .i64 x1) (.int .i64 x2)).run Try.prog w = .ok (x1 == x2) w := fun x1 x2 => by go_simp
  simp only [Sem.run_bind, p1, p2, e1, Result.andThen_ok]
  cases h1 : (a1 == b1) <;> cases h2 : (a2 == b2) <;> simp [Sem.run_bind, p1, p2, e1, h2, Result.andThen_ok]
abbrev cirA (c : Int × Int × Int × Int × Int × Int) : Value := .agg #[.int .i64 c.1, .int .i64 c.2.1, .int .i64 c.2.2.1, .int .i64 c.2.2.2.1, .int .i64 c.2.2.2.2.1, .int .i64 c.2.2.2.2.2]
theorem eqCi (d : Nat) (w : World) (a1 a2 a3 a4 a5 a6 b1 b2 b3 b4 b5 b6 : Int) : (Op.equalIn (d + 3) 50 (cirA (a1, a2, a3, a4, a5, a6)) (cirA (b1, b2, b3, b4, b5, b6))).run Try.prog w = .ok (a1 == b1 && (a2 == b2 && (a3 == b3 && (a4 == b4 && (a5 == b5 && a6 == b6))))) w := by
  refine eqA_of Try.underlying50 (by kernel_rfl) ?_
  refine eqf_cons (by rfl) (by go_simp; rfl) (by go_simp; rfl) (by go_simp) ?_
  refine eqf_cons (by rfl) (by go_simp; rfl) (by go_simp; rfl) (by go_simp) ?_
  refine eqf_cons (by rfl) (by go_simp; rfl) (by go_simp; rfl) (by go_simp) ?_
  refine eqf_cons (by rfl) (by go_simp; rfl) (by go_simp; rfl) (by go_simp) ?_
  exact eqf_last (by rfl) (by go_simp) (by go_simp) (eqArr2 d w a5 a6 b5 b6)
theorem neq_cir (w : World) (a1 a2 a3 a4 a5 a6 : Int) : (binOp .neq 50 (cirA (a1, a2, a3, a4, a5, a6)) (cirA (a1, a2, a3, a4, a5, a6))).run Try.prog w = .ok (.bool false) w := by
  have h : (Op.equal 50 (cirA (a1, a2, a3, a4, a5, a6)) (cirA (a1, a2, a3, a4, a5, a6))).run Try.prog w = .ok true w := (eqCi 9997 w a1 a2 a3 a4 a5 a6 a1 a2 a3 a4 a5 a6).trans (by simp)
  unfold binOp
  simp only [Sem.run_bind, h, Result.andThen_ok, Sem.run_pure]
  rfl
theorem eqHe (d : Nat) (w : World) (a1 a2 a3 b1 b2 b3 : Int) : (Op.equalIn (d + 2) 58 (.agg #[.int .i64 a1, .int .u32 a2, .int .i64 a3]) (.agg #[.int .i64 b1, .int .u32 b2, .int .i64 b3])).run Try.prog w = .ok (a1 == b1 && (a2 == b2 && a3 == b3)) w := by
  refine eqA_of Try.underlying58 (by kernel_rfl) ?_
  refine eqf_cons (by rfl) (by go_simp; rfl) (by go_simp; rfl) (by go_simp) ?_
  refine eqf_cons (by rfl) (by go_simp; rfl) (by go_simp; rfl) (by go_simp) ?_
  exact eqf_last (by rfl) (by go_simp; rfl) (by go_simp; rfl) (by go_simp)
theorem neq_held (w : World) (a1 a2 a3 : Int) : (binOp .neq 58 (.agg #[.int .i64 a1, .int .u32 a2, .int .i64 a3]) (.agg #[.int .i64 a1, .int .u32 a2, .int .i64 a3])).run Try.prog w = .ok (.bool false) w := by
  have h : (Op.equal 58 (.agg #[.int .i64 a1, .int .u32 a2, .int .i64 a3]) (.agg #[.int .i64 a1, .int .u32 a2, .int .i64 a3])).run Try.prog w = .ok true w := (eqHe 9998 w a1 a2 a3 a1 a2 a3).trans (by simp)
  unfold binOp
  simp only [Sem.run_bind, h, Result.andThen_ok, Sem.run_pure]
  rfl
end Go.Proofs.Yteajlffchdbkjaa.Re
namespace Go.Proofs.Yteajlffchdbkjaa.Re
open Go.RowKit Go.Maps Go.Shelf Go.Proofs.Yteajlffchdbkjaa.Rv Go.Proofs.Yteajlffchdbkjaa.Ci Go.Proofs.Yteajlffchdbkjaa.Sp Go.Proofs.YteajlffchdbkjaaW.PrintWords Go.Proofs.YteajlffchdbkjaaW.PrintLast Go.Proofs.YteajlffchdbkjaaW.PrintMore
set_option linter.unusedVariables false
set_option linter.unusedSimpArgs false
structure LvInv (l : LimV) (s : RelS) : Prop where
  own : s.own = 900
  lim : s.l = l
  now : s.now = 0
  tC : s.tC = 0
  live : ∀ c ∈ s.C, 0 < c.2.2.2.1
  apart : Apart s.C
  nos : ∀ c ∈ s.C, c.1 ≤ s.last
theorem lv_new (l : LimV) : LvInv l (newS 900 l []) := ⟨rfl, rfl, rfl, rfl, (fun c hc => by cases hc), List.Pairwise.nil, (fun c hc => by cases hc)⟩
theorem lv_res {l : LimV} {s : RelS} (h : LvInv l s) (p host : Int) : LvInv l (ResT s 0 p host).2.2 := by
  unfold ResT
  split
  · exact h
  · unfold ResF
    split
    · exact ⟨h.own, h.lim, rfl, h.tC, h.live, h.apart, h.nos⟩
    · exact ⟨h.own, h.lim, rfl, h.tC, h.live, h.apart, h.nos⟩
theorem LvInv.all {l : LimV} {s : RelS} (h : LvInv l s) : liveC s.C 0 = s.C ∧ goneC s.C 0 = [] := live_all h.live
theorem lv_con {l : LimV} {s : RelS} (h : LvInv l s) (hm : mayL l = true) (a b : Int) : LvInv l (ConT s 0 a b).2.2 := by
  have hml := (mayL_iff l).1 hm
  obtain ⟨hlv, hgn⟩ := h.all
  unfold ConT
  by_cases hb : conBad s 0 a b
  · rw [if_pos hb]
    exact h
  · rw [if_neg hb]
    unfold ConF
    by_cases hh : hasL (overL s.R 0) b = true
    · have hlive := (getL_live hh).2
      rw [if_pos hh, hlv, hgn, List.append_nil, h.lim]
      obtain ⟨u, hu⟩ : ∃ u, (getL (overL s.R 0) b).2.2 = u := ⟨_, rfl⟩
      rw [hu] at hlive ⊢
      obtain ⟨f1, f2, f3⟩ := openG_all l.2.2.1 l.2.2.2.2.1 s.C s.last 0 a b (u + 30)
      cases hany : s.C.any (isBetween a b) with
      | true =>
        rw [f1 hany]
        exact ⟨h.own, rfl, rfl, rfl, h.live, h.apart, h.nos⟩
      | false =>
        by_cases hc : l.2.2.1 ≤ (s.C.length : Int)
        · rw [f2 hany hc]
          exact ⟨h.own, rfl, rfl, rfl, h.live, h.apart, h.nos⟩
        · rw [f3 hany hc]
          refine ⟨h.own, rfl, rfl, rfl, fun c hc2 => ?_, ?_, fun c hc2 => ?_⟩
          · rcases List.mem_append.1 hc2 with hc2 | hc2
            · exact h.live c hc2
            · rw [List.mem_singleton.1 hc2]
              dsimp only
              have := hml.2.2.2.2.1
              have := hml.2.2.2.1
              split <;> omega
          · show (s.C ++ [_]).Pairwise _
            refine List.pairwise_append.2 ⟨h.apart, List.pairwise_singleton _ _, fun x hx y hy => ?_⟩
            rw [List.mem_singleton.1 hy]
            have := h.nos x hx
            show x.1 ≠ s.last + 1
            omega
          · show c.1 ≤ s.last + 1
            rcases List.mem_append.1 hc2 with hc2 | hc2
            · have := h.nos c hc2; omega
            · rw [List.mem_singleton.1 hc2]; exact Int.le_refl _
    · rw [if_neg hh]
      exact ⟨h.own, h.lim, rfl, h.tC, h.live, h.apart, h.nos⟩
theorem lv_st {l : LimV} {s : RelS} (h : LvInv l s) : LvInv l (StF s 0) ∧ (StF s 0).C = s.C ∧ liveC s.C 0 = s.C := by
  obtain ⟨hlv, hgn⟩ := h.all
  have e : (StF s 0).C = s.C := hlv
  refine ⟨⟨h.own, h.lim, rfl, rfl, ?_, ?_, ?_⟩, e, hlv⟩
  · rw [e]; exact h.live
  · rw [e]; exact h.apart
  · rw [e]; exact h.nos
/-- Behind Leave: no reservation is the peer's, no circuit has it as its end. -/
theorem lv_leave {l : LimV} {s : RelS} (h : LvInv l s) (p : Int) : (LeaveF s 0 p).now = 0 ∧ (∀ q ∈ overL (LeaveF s 0 p).R 0, q.1 ≠ p) ∧ liveC (LeaveF s 0 p).C 0 = s.C.filter (fun c => !isEnd p c) := by
  refine ⟨rfl, fun q hq => ?_, (live_all (fun c hc => h.live c (List.mem_filter.1 hc).1)).1⟩
  have h1 := (overL_mem hq).1
  have h2 := (List.mem_filter.1 h1).2
  simpa using h2
/-! ### where the kept ones stand -/
theorem filter_at {α : Type} (f : α → Bool) (L : List α) (i : Nat) (hi : i < L.length) (h : f L[i] = true) : (L.filter f)[((L.take i).filter f).length]? = some L[i] := by
  have e : L = L.take i ++ L[i] :: L.drop (i + 1) := by rw [List.getElem_cons_drop, List.take_append_drop]
  have e2 : L.filter f = (L.take i).filter f ++ L[i] :: (L.drop (i + 1)).filter f := by
    conv => lhs; rw [e]
    rw [List.filter_append, List.filter_cons, if_pos h]
  rw [e2, List.getElem?_append_right (Nat.le_refl _), Nat.sub_self]
  rfl
theorem filter_parts {α : Type} (f : α → Bool) (L : List α) : (L.filter f).length + (L.filter (fun x => !f x)).length = L.length := by
  induction L with
  | nil => rfl
  | cons x r ih =>
    rw [List.filter_cons, List.filter_cons, List.length_cons]
    cases f x <;> simp <;> omega
theorem ends_len (L : List CirP) (p : Int) : (endsL L p).length = (L.filter (isEnd p)).length := by unfold endsL; rw [List.length_map]
/-- A circuit whose end the peer is: its number is told where as many are told as were so ahead. -/
theorem ends_at (L : List CirP) (p : Int) (i : Nat) (hi : i < L.length) (h : isEnd p L[i] = true) : ∃ hk : (endsL (L.take i) p).length < (endsL L p).length, (endsL L p)[(endsL (L.take i) p).length] = L[i].1 := by
  have h1 := filter_at (isEnd p) L i hi h
  have h2 : (endsL L p)[(endsL (L.take i) p).length]? = some L[i].1 := by
    rw [ends_len]
    unfold endsL
    rw [List.getElem?_map, h1]
    rfl
  obtain ⟨h3, h4⟩ := List.getElem?_eq_some_iff.1 h2
  exact ⟨h3, h4⟩
/-- Another one stands where as many are left as were left ahead. -/
theorem kept_at (L : List CirP) (p : Int) (i : Nat) (hi : i < L.length) (h : isEnd p L[i] = false) : ∃ hk : i - (endsL (L.take i) p).length < (L.filter (fun c => !isEnd p c)).length, (L.filter (fun c => !isEnd p c))[i - (endsL (L.take i) p).length] = L[i] ∧ (endsL (L.take i) p).length ≤ i := by
  have h1 := filter_at (fun c => !isEnd p c) L i hi (by rw [h]; rfl)
  have h2 := filter_parts (isEnd p) (L.take i)
  rw [List.length_take, Nat.min_eq_left (Nat.le_of_lt hi)] at h2
  rw [ends_len]
  have e : i - ((L.take i).filter (isEnd p)).length = ((L.take i).filter (fun c => !isEnd p c)).length := by omega
  obtain ⟨h3, h4⟩ := List.getElem?_eq_some_iff.1 h1
  rw [← e] at h3
  refine ⟨h3, ?_, by omega⟩
  rw [← h4]
  congr 1
theorem ends_end (L : List CirP) (p : Int) : (L.filter (fun c => !isEnd p c)).length = L.length - (endsL L p).length ∧ (endsL L p).length ≤ L.length := by
  have h2 := filter_parts (isEnd p) L
  rw [ends_len]
  omega
end Go.Proofs.Yteajlffchdbkjaa.Re
namespace Go.Proofs.Yteajlffchdbkjaa.Re
open Go.RowKit Go.Maps Go.Shelf Go.Proofs.Yteajlffchdbkjaa.Rv Go.Proofs.Yteajlffchdbkjaa.Ci Go.Proofs.Yteajlffchdbkjaa.Sp Go.Proofs.YteajlffchdbkjaaW.PrintWords Go.Proofs.YteajlffchdbkjaaW.PrintLast Go.Proofs.YteajlffchdbkjaaW.PrintMore
set_option linter.unusedVariables false
set_option linter.unusedSimpArgs false
attribute [local go_sem] Oper.semAt_some
theorem byte_in {V W : World} {A : Option Addr} {n : Nat} {l : List Int} (h : (Kd.int .u8).C W A n l) (hn : n = l.length) (hv : Below W.heap.size W V) (i : Nat) (hi : i < l.length) : ∃ ad, A = some ad ∧ V.cell? (ad.add i) = some (.int .u8 l[i]) := By.cell_of_C (Kd.C_below h hv) i hi hn
theorem nine_mod (x : Int) (h : 0 ≤ x ∧ x ≤ 255) : ∃ q : Int, Int.tmod (wrap64 x) 9 = q ∧ 0 ≤ q ∧ q ≤ 8 := by
  refine ⟨_, rfl, ?_⟩
  rw [show wrap64 x = x by unfold wrap64; omega, Int.tmod_eq_emod_of_nonneg h.1]; omega
set_option maxRecDepth 100000 in
set_option maxHeartbeats 16000000 in
theorem leaves_calls (w : World) (a b c d e f : Int) (Aw : Option Addr) (nw cw : Nat) (lw : List Int) (who : Int) (hw1 : (Kd.int .u8).C w Aw nw lw) (hw2 : nw = lw.length) (hw3 : ∀ x ∈ lw, 0 ≤ x ∧ x ≤ 255) (hwho : 0 ≤ who ∧ who ≤ 255) :
    Calls Try.prog 7 #[.agg #[.int .i64 a, .int .i64 b, .int .i64 c, .int .i64 d, .int .i64 e, .int .i64 f], .slice Aw nw cw, .int .u8 who] w fun en w' => en = .returned (.bool true) ∧ Below w.heap.size w w' := by
  obtain ⟨W, hW⟩ : ∃ W, w.alloc (.cells #[.int .i64 a, .int .i64 b, .int .i64 c, .int .i64 d, .int .i64 e, .int .i64 f] 23) = W := ⟨_, rfl⟩
  have hbW : Below w.heap.size w W := by rw [← hW]; exact (Below.refl _ w).alloc (Nat.le_refl _) _
  have hbl : W.heap[w.heap.size]? = some (.cells #[.int .i64 a, .int .i64 b, .int .i64 c, .int .i64 d, .int .i64 e, .int .i64 f] 23 (0, 0)) := by rw [← hW]; exact new_cellsN w _ _
  have hlt : w.heap.size < W.heap.size := (Array.getElem?_eq_some_iff.1 hbl).1
  have LC := Lib.hid (fun (V : World) (hV : Below W.heap.size W V) => limC_cells ((hV.block _ hlt).trans hbl))
  have HBW := Lib.hid hbW
  have HLT := Lib.hid hlt
  have CW := Lib.hid (fun (V : World) (hV : Below W.heap.size W V) (i : Nat) (hi : i < lw.length) => byte_in hw1 hw2 (hbW.trans (hV.mono (Nat.le_of_lt hlt))) i hi)
  have HW3 := Lib.hid hw3
  have HNW := Lib.hid hw2
  have HWHO := Lib.hid hwho
  have q25 := ptr_nil
  have KM := Lib.hid (fun V => rvmay_calls V a b c d e f)
  clear hw1 hw2 hw3 hbl hbW hlt hwho
  go_enter Try.func7, Try.ntmps7
  go_upto_region 3 with (go_at_call 17; refine (awake_calls _).mono ?_; rintro en w1 ⟨rfl, hb1⟩; have HB1 := Lib.hid hb1; clear hb1)
  clear hW
  obtain ⟨c0, c1, c2, c3, c4, c5⟩ := LC.out w1 HB1.out
  have KM1 := KM.out w1
  cases hm : mayL (a, b, c, d, e, f) with
  | false =>
    rw [hm] at KM1
    have KM1 := Lib.hid KM1
    go_wp2_with (go_at_call 21; (with_reducible refine KM1.out.mono ?_); rintro en w2 ⟨rfl, hg2⟩; have HG2 := Lib.hid hg2; clear hg2)
    go_ret
    exact ⟨rfl, HBW.out.trans ((HB1.out.trans ((grown_below HG2.out).mono HB1.out.size)).mono (Nat.le_of_lt HLT.out))⟩
  | true =>
    rw [hm] at KM1
    have KM1 := Lib.hid KM1
    have HM := Lib.hid hm
    have hml := (mayL_iff (a, b, c, d, e, f)).1 hm
    have HML := Lib.hid hml
    clear hm hml
    by_cases h20 : nw > 20
    · have b1 : decide (nw > 20) = true := decide_eq_true h20
      have b1' : decide ((nw : Int) > 20) = true := decide_eq_true (by omega)
      go_wp2_with (go_at_call 21; (with_reducible refine KM1.out.mono ?_); rintro en w2 ⟨rfl, hg2⟩; have HG2 := Lib.hid hg2; clear hg2)
      go_ret
      exact ⟨rfl, HBW.out.trans ((HB1.out.trans ((grown_below HG2.out).mono HB1.out.size)).mono (Nat.le_of_lt HLT.out))⟩
    · have b1 : decide (nw > 20) = false := decide_eq_false h20
      have b1' : decide ((nw : Int) > 20) = false := decide_eq_false (by omega)
      have HC2 := Lib.hid (fun V (hV : w1.grownBy V none) => LC.out V (HB1.out.trans ((grown_below hV).mono HB1.out.size)))
      go_upto_region 5 with (go_at_call 21; (with_reducible refine KM1.out.mono ?_); rintro en w2 ⟨rfl, hg2⟩; have HG2 := Lib.hid hg2; obtain ⟨d0, d1, d2, d3, d4, d5⟩ := HC2.out w2 hg2; clear hg2)
      have HB2 := Lib.hid (show Below W.heap.size W w2 from HB1.out.trans ((grown_below HG2.out).mono HB1.out.size))
      have hn20 : nw ≤ 20 := by omega
      clear c0 c1 c2 c3 c4 c5 b1 b1' h20
      refine wp_region_held_drew (S := fun w' => w'.cell? ⟨w.heap.size, 0, none⟩ = some (.int .i64 a) ∧ w'.cell? ⟨w.heap.size, 1, none⟩ = some (.int .i64 b) ∧ w'.cell? ⟨w.heap.size, 2, none⟩ = some (.int .i64 c) ∧ w'.cell? ⟨w.heap.size, 3, none⟩ = some (.int .i64 d) ∧ w'.cell? ⟨w.heap.size, 4, none⟩ = some (.int .i64 e) ∧ w'.cell? ⟨w.heap.size, 5, none⟩ = some (.int .i64 f)) (by kernel_rfl) ?_ (fun hHeld => ?_)
      · exact ⟨d0, d1, d2, d3, d4, d5⟩
      refine wpAnyH_take (i := 0) (v := ?_) rfl (by kernel_rfl) (by kernel_rfl) (by kernel_rfl) (fun _ _ _ h => h) (Or.inl ⟨by rfl, ?_⟩) (by assumption) ?_
      rotate_left
      · (intro w hSw; (try dsimp only at hSw); go_simp; try with_reducible rfl)
      try simp only [Act.put, List.setIfInBounds_toArray, List.set_cons_zero, List.set_cons_succ, List.getElem_toArray, List.getElem_cons_succ, List.getElem_cons_zero]
      refine wpAnyH_ready (rs := [1]) (by kernel_rfl) (by simp) ?_
      refine AllReadyH.cons rfl (fun K hK => ?_) AllReadyH.nil
      go_simp
      go_at_call 10; refine (Nt.one_new _).mono ?_; rintro en w3 ⟨gN, rfl, hN, hb⟩; have HN := Lib.hid hN; have HB3 := Lib.hid (show Below W.heap.size W w3 from (HB2.out.trans (drew_below w2 |>.mono HB2.out.size)).trans (hb.mono HB2.out.size)); have hl3 := LC.out w3 HB3.out; clear hN hb
      refine hK.out _ _ ?_ (fun hHeld => ?_)
      · exact hl3
      clear hK K
      try simp only [Act.put, List.setIfInBounds_toArray, List.set_cons_zero, List.set_cons_succ, List.getElem_toArray, List.getElem_cons_succ, List.getElem_cons_zero]
      refine wpAnyH_ready (rs := [2]) (by kernel_rfl) (by simp) ?_
      refine AllReadyH.cons rfl (fun K hK => ?_) AllReadyH.nil
      go_simp
      go_at_call 11; refine (new_k 900 a b c d e f gN HN.out HM.out (by decide)).mono ?_; rintro en w4 ⟨r, rfl, hr, hb⟩; have HK4 := Lib.hid (hr.sub (fun k hk => Nat.lt_of_lt_of_le hk HB2.out.size)); have HB4 := Lib.hid (show Below W.heap.size W w4 from HB3.out.trans (hb.mono HB3.out.size)); have hl4 := LC.out w4 HB4.out; clear hr hb
      refine hK.out _ _ ?_ (fun hHeld => ?_)
      · exact hl4
      clear hK K
      try simp only [Act.put, List.setIfInBounds_toArray, List.set_cons_zero, List.set_cons_succ, List.getElem_toArray, List.getElem_cons_succ, List.getElem_cons_zero]
      refine wpAnyH_take (i := 3) (v := ?_) rfl (by kernel_rfl) (by kernel_rfl) (by kernel_rfl) (fun _ _ _ h => h) (Or.inl ⟨by rfl, ?_⟩) (by assumption) ?_
      rotate_left
      · (intro w hSw; (try dsimp only at hSw); go_simp; try with_reducible rfl)
      try simp only [Act.put, List.setIfInBounds_toArray, List.set_cons_zero, List.set_cons_succ, List.getElem_toArray, List.getElem_cons_succ, List.getElem_cons_zero]
      refine wpAnyH_take (i := 4) (v := ?_) rfl (by kernel_rfl) (by kernel_rfl) (by kernel_rfl) (fun _ _ _ h => h) (Or.inl ⟨by rfl, ?_⟩) (by assumption) ?_
      rotate_left
      · (intro w hSw; (try dsimp only at hSw); go_simp; try with_reducible rfl)
      try simp only [Act.put, List.setIfInBounds_toArray, List.set_cons_zero, List.set_cons_succ, List.getElem_toArray, List.getElem_cons_succ, List.getElem_cons_zero]
      refine wpAnyH_take (i := 5) (v := ?_) rfl (by kernel_rfl) (by kernel_rfl) (by kernel_rfl) (fun _ _ _ h => h) (Or.inl ⟨by rfl, ?_⟩) (by assumption) ?_
      rotate_left
      · (intro w hSw; (try dsimp only at hSw); go_simp; try with_reducible rfl)
      try simp only [Act.put, List.setIfInBounds_toArray, List.set_cons_zero, List.set_cons_succ, List.getElem_toArray, List.getElem_cons_succ, List.getElem_cons_zero]
      refine wpAnyH_take (i := 6) (v := ?_) rfl (by kernel_rfl) (by kernel_rfl) (by kernel_rfl) (fun _ _ _ h => h) (Or.inl ⟨by rfl, ?_⟩) (by assumption) ?_
      rotate_left
      · (intro w hSw; (try dsimp only at hSw); go_simp; try with_reducible rfl)
      try simp only [Act.put, List.setIfInBounds_toArray, List.set_cons_zero, List.set_cons_succ, List.getElem_toArray, List.getElem_cons_succ, List.getElem_cons_zero]
      refine wpAnyH_take (i := 7) (v := ?_) rfl (by kernel_rfl) (by kernel_rfl) (by kernel_rfl) (fun _ _ _ h => h) (Or.inl ⟨by rfl, ?_⟩) (by assumption) ?_
      rotate_left
      · (intro w hSw; (try dsimp only at hSw); go_simp; try with_reducible rfl)
      try simp only [Act.put, List.setIfInBounds_toArray, List.set_cons_zero, List.set_cons_succ, List.getElem_toArray, List.getElem_cons_succ, List.getElem_cons_zero]
      refine wpAnyH_done (by kernel_rfl) ?_ _
      clear d0 d1 d2 d3 d4 d5
      go_upto_region 9 with fail
      go_loopw [9] (fun x9 wr => ∃ (i : Nat) (s : RelS), x9 = .int .i64 i ∧ 0 ≤ i ∧ (i ≤ nw ∨ i = 0) ∧ Hid (LvInv (a, b, c, d, e, f) s) ∧ Hid (RelK (i) wr r gN s (fun k => k < W.heap.size)) ∧ Hid (Below W.heap.size W wr)) (fun x9 _ => nw - (intOf x9).toNat)
      case atStart => exact ⟨0, _, rfl, Nat.le_refl _, .inr rfl, Lib.hid (lv_new _), Lib.hid HK4.out, HB4⟩
      case round =>
        obtain ⟨i, s, rfl, hi0, hi, HI, HKr, HBr⟩ := hrel
        by_cases hlt : i < nw
        · have b1 : decide ((i : Int) < (nw : Int)) = true := decide_eq_true (by omega)
          have hiL : i < lw.length := by rw [← HNW.out]; exact hlt
          obtain ⟨ad, rfl, hx⟩ := CW.out wr HBr.out i hiL
          obtain ⟨x, hxv⟩ : ∃ x, lw[i] = x := ⟨_, rfl⟩
          have hxb := HW3.out x (by rw [← hxv]; exact List.getElem_mem _)
          rw [hxv] at hx
          have CC := Lib.hid (fun (V : World) (hV : Below W.heap.size W V) => (show V.cell? (ad.add i) = some (.int .u8 x) from by obtain ⟨ad', h1, h2⟩ := CW.out V hV i hiL; injection h1 with h1; subst h1; rw [hxv] at h2; exact h2))
          have hltI : (i : Int) < (nw : Int) := by omega
          have KR := Lib.hid (fun p host (V : World) (hV : Below wr.heap.size wr V) => res_k ((HKr.out.step hV).sub (fun k (e : k < W.heap.size) => .inl e)) (by omega) 0 p host)
          have hsp := Lib.hid (fun p host => lv_res HI.out p host)
          clear hxv hxb hiL
          go_upto_region 11 with fail
          refine wp_region_held_drew (S := fun w' => w'.cell? (ad.add i) = some (.int .u8 x)) (by kernel_rfl) ?_ (fun hHeld => ?_)
          · exact hx
          refine wpAnyH_take (i := 0) (v := ?_) rfl (by kernel_rfl) (by kernel_rfl) (by kernel_rfl) (fun _ _ _ h => h) (Or.inl ⟨by rfl, ?_⟩) (by assumption) ?_
          rotate_left
          · (intro w hSw; (try dsimp only at hSw); go_simp; try with_reducible rfl)
          try simp only [Act.put, List.setIfInBounds_toArray, List.set_cons_zero, List.set_cons_succ, List.getElem_toArray, List.getElem_cons_succ, List.getElem_cons_zero]
          refine wpAnyH_take (i := 1) (v := ?_) rfl (by kernel_rfl) (by kernel_rfl) (by kernel_rfl) (fun _ _ _ h => h) (Or.inl ⟨by rfl, ?_⟩) (by assumption) ?_
          rotate_left
          · (intro w hSw; (try dsimp only at hSw); go_simp; try with_reducible rfl)
          try simp only [Act.put, List.setIfInBounds_toArray, List.set_cons_zero, List.set_cons_succ, List.getElem_toArray, List.getElem_cons_succ, List.getElem_cons_zero]
          refine wpAnyH_take (i := 2) (v := ?_) rfl (by kernel_rfl) (by kernel_rfl) (by kernel_rfl) (fun _ _ _ h => h) (Or.inl ⟨by rfl, ?_⟩) (by assumption) ?_
          rotate_left
          · (intro w hSw; (try dsimp only at hSw); go_simp; try with_reducible rfl)
          try simp only [Act.put, List.setIfInBounds_toArray, List.set_cons_zero, List.set_cons_succ, List.getElem_toArray, List.getElem_cons_succ, List.getElem_cons_zero]
          refine wpAnyH_take (i := 3) (v := ?_) rfl (by kernel_rfl) (by kernel_rfl) (by kernel_rfl) (fun _ _ _ h => h) (Or.inl ⟨by rfl, ?_⟩) (by assumption) ?_
          rotate_left
          · (intro w hSw; (try dsimp only at hSw); go_simp; try with_reducible rfl)
          try simp only [Act.put, List.setIfInBounds_toArray, List.set_cons_zero, List.set_cons_succ, List.getElem_toArray, List.getElem_cons_succ, List.getElem_cons_zero]
          refine wpAnyH_take (i := 4) (v := ?_) rfl (by kernel_rfl) (by kernel_rfl) (by kernel_rfl) (fun _ _ _ h => h) (Or.inl ⟨by rfl, ?_⟩) (by assumption) ?_
          rotate_left
          · (intro w hSw; (try dsimp only at hSw); go_simp; try with_reducible rfl)
          try simp only [Act.put, List.setIfInBounds_toArray, List.set_cons_zero, List.set_cons_succ, List.getElem_toArray, List.getElem_cons_succ, List.getElem_cons_zero]
          refine wpAnyH_take (i := 5) (v := ?_) rfl (by kernel_rfl) (by kernel_rfl) (by kernel_rfl) (fun _ _ _ h => h) (Or.inl ⟨by rfl, ?_⟩) (by assumption) ?_
          rotate_left
          · (intro w hSw; (try dsimp only at hSw); go_simp; try with_reducible rfl)
          try simp only [Act.put, List.setIfInBounds_toArray, List.set_cons_zero, List.set_cons_succ, List.getElem_toArray, List.getElem_cons_succ, List.getElem_cons_zero]
          refine wpAnyH_take (i := 6) (v := ?_) rfl (by kernel_rfl) (by kernel_rfl) (by kernel_rfl) (fun _ _ _ h => h) (Or.inl ⟨by rfl, ?_⟩) (by assumption) ?_
          rotate_left
          · (intro w hSw; (try dsimp only at hSw); go_simp; try with_reducible rfl)
          try simp only [Act.put, List.setIfInBounds_toArray, List.set_cons_zero, List.set_cons_succ, List.getElem_toArray, List.getElem_cons_succ, List.getElem_cons_zero]
          refine wpAnyH_take (i := 7) (v := ?_) rfl (by kernel_rfl) (by kernel_rfl) (by kernel_rfl) (fun _ _ _ h => h) (Or.inl ⟨by rfl, ?_⟩) (by assumption) ?_
          rotate_left
          · (intro w hSw; (try dsimp only at hSw); go_simp; try with_reducible rfl)
          try simp only [Act.put, List.setIfInBounds_toArray, List.set_cons_zero, List.set_cons_succ, List.getElem_toArray, List.getElem_cons_succ, List.getElem_cons_zero]
          refine wpAnyH_take (i := 8) (v := ?_) rfl (by kernel_rfl) (by kernel_rfl) (by kernel_rfl) (fun _ _ _ h => h) (Or.inl ⟨by rfl, ?_⟩) (by assumption) ?_
          rotate_left
          · (intro w hSw; (try dsimp only at hSw); go_simp; try with_reducible rfl)
          try simp only [Act.put, List.setIfInBounds_toArray, List.set_cons_zero, List.set_cons_succ, List.getElem_toArray, List.getElem_cons_succ, List.getElem_cons_zero]
          refine wpAnyH_take (i := 9) (v := ?_) rfl (by kernel_rfl) (by kernel_rfl) (by kernel_rfl) (fun _ _ _ h => h) (Or.inl ⟨by rfl, ?_⟩) (by assumption) ?_
          rotate_left
          · (intro w hSw; (try dsimp only at hSw); go_simp; try with_reducible rfl)
          try simp only [Act.put, List.setIfInBounds_toArray, List.set_cons_zero, List.set_cons_succ, List.getElem_toArray, List.getElem_cons_succ, List.getElem_cons_zero]
          refine wpAnyH_take (i := 10) (v := ?_) rfl (by kernel_rfl) (by kernel_rfl) (by kernel_rfl) (fun _ _ _ h => h) (Or.inl ⟨by rfl, ?_⟩) (by assumption) ?_
          rotate_left
          · (intro w hSw; (try dsimp only at hSw); go_simp; try with_reducible rfl)
          try simp only [Act.put, List.setIfInBounds_toArray, List.set_cons_zero, List.set_cons_succ, List.getElem_toArray, List.getElem_cons_succ, List.getElem_cons_zero]
          refine wpAnyH_take (i := 11) (v := ?_) rfl (by kernel_rfl) (by kernel_rfl) (by kernel_rfl) (fun _ _ _ h => h) (Or.inl ⟨by rfl, ?_⟩) (by assumption) ?_
          rotate_left
          · (intro w hSw; (try dsimp only at hSw); go_simp; try with_reducible rfl)
          try simp only [Act.put, List.setIfInBounds_toArray, List.set_cons_zero, List.set_cons_succ, List.getElem_toArray, List.getElem_cons_succ, List.getElem_cons_zero]
          refine wpAnyH_take (i := 12) (v := ?_) rfl (by kernel_rfl) (by kernel_rfl) (by kernel_rfl) (fun _ _ _ h => h) (Or.inl ⟨by rfl, ?_⟩) (by assumption) ?_
          rotate_left
          · (intro w hSw; (try dsimp only at hSw); go_simp; try with_reducible rfl)
          try simp only [Act.put, List.setIfInBounds_toArray, List.set_cons_zero, List.set_cons_succ, List.getElem_toArray, List.getElem_cons_succ, List.getElem_cons_zero]
          refine wpAnyH_take (i := 13) (v := ?_) rfl (by kernel_rfl) (by kernel_rfl) (by kernel_rfl) (fun _ _ _ h => h) (Or.inl ⟨by rfl, ?_⟩) (by assumption) ?_
          rotate_left
          · (intro w hSw; (try dsimp only at hSw); go_simp; try with_reducible rfl)
          try simp only [Act.put, List.setIfInBounds_toArray, List.set_cons_zero, List.set_cons_succ, List.getElem_toArray, List.getElem_cons_succ, List.getElem_cons_zero]
          refine wpAnyH_take (i := 14) (v := ?_) rfl (by kernel_rfl) (by kernel_rfl) (by kernel_rfl) (fun _ _ _ h => h) (Or.inl ⟨by rfl, ?_⟩) (by assumption) ?_
          rotate_left
          · (intro w hSw; (try dsimp only at hSw); go_simp; try with_reducible rfl)
          try simp only [Act.put, List.setIfInBounds_toArray, List.set_cons_zero, List.set_cons_succ, List.getElem_toArray, List.getElem_cons_succ, List.getElem_cons_zero]
          refine wpAnyH_take (i := 15) (v := ?_) rfl (by kernel_rfl) (by kernel_rfl) (by kernel_rfl) (fun _ _ _ h => h) (Or.inl ⟨by rfl, ?_⟩) (by assumption) ?_
          rotate_left
          · (intro w hSw; (try dsimp only at hSw); go_simp; try with_reducible rfl)
          try simp only [Act.put, List.setIfInBounds_toArray, List.set_cons_zero, List.set_cons_succ, List.getElem_toArray, List.getElem_cons_succ, List.getElem_cons_zero]
          refine wpAnyH_ready (rs := [16]) (by kernel_rfl) (by simp) ?_
          refine AllReadyH.cons rfl (fun K hK => ?_) AllReadyH.nil
          go_simp
          go_at_call 12; (refine (KR.out _ _ (wr.drew) (drew_below wr)).mono ?_); rintro en w6 ⟨v, sz, rfl, hR, hsz, hk, hkp⟩; have HK6 := Lib.hid (hk.sub (fun k (e : k < W.heap.size) => .inl e)); have HB6 := Lib.hid (show Below W.heap.size W w6 from (HBr.out.trans (drew_below wr |>.mono HBr.out.size)).trans (hkp.toBelow (fun i hi => hi) HBr.out.size)); have hx6 := CC.out w6 HB6.out; clear hR hsz hk hkp
          refine hK.out _ _ ?_ (fun hHeld => ?_)
          · exact hx6
          clear hK K
          try simp only [Act.put, List.setIfInBounds_toArray, List.set_cons_zero, List.set_cons_succ, List.getElem_toArray, List.getElem_cons_succ, List.getElem_cons_zero]
          refine wpAnyH_done (by kernel_rfl) ?_ _
          go_wp2
          go_roundw
          case rel => exact ⟨i + 1, _, by go_num, by omega, by omega, Lib.hid (hsp.out _ _), HK6, HB6⟩
          case measure => simp [intOf]; omega
        · have b1 : decide ((i : Int) < (nw : Int)) = false := decide_eq_false (by omega)
          go_upto_region 13 with fail
          go_loopw [10] (fun x10 wr => ∃ (i : Nat) (s : RelS), x10 = .int .i64 i ∧ 1 ≤ i ∧ (i ≤ nw ∨ i = 1) ∧ Hid (LvInv (a, b, c, d, e, f) s) ∧ Hid (RelK (20 + i) wr r gN s (fun k => k < W.heap.size)) ∧ Hid (Below W.heap.size W wr)) (fun x10 _ => nw - (intOf x10).toNat)
          case atStart => exact ⟨1, s, rfl, Nat.le_refl _, .inr rfl, HI, Lib.hid (HKr.out.mono (by omega)), HBr⟩
          case round =>
            clear HI HKr HBr
            obtain ⟨i, s, rfl, hi0, hi, HI, HKr, HBr⟩ := hrel
            by_cases hlt : i < nw
            · have b1 : decide ((i : Int) < (nw : Int)) = true := decide_eq_true (by omega)
              have hiL : i < lw.length := by rw [← HNW.out]; exact hlt
              obtain ⟨j, hj⟩ : ∃ j : Nat, i = j + 1 := ⟨i - 1, by omega⟩
              have hjL : j < lw.length := by omega
              obtain ⟨ad, rfl, hx0⟩ := CW.out wr HBr.out i hiL
              clear hx0
              obtain ⟨x, hxv⟩ : ∃ x, lw[i] = x := ⟨_, rfl⟩
              obtain ⟨y, hyv⟩ : ∃ y, lw[j] = y := ⟨_, rfl⟩
              have CC := Lib.hid (fun (V : World) (hV : Below W.heap.size W V) => (show V.cell? (ad.add i) = some (.int .u8 x) ∧ V.cell? (ad.add j) = some (.int .u8 y) from ⟨by obtain ⟨ad', h1, h2⟩ := CW.out V hV i hiL; injection h1 with h1; subst h1; rw [hxv] at h2; exact h2, by obtain ⟨ad', h1, h2⟩ := CW.out V hV j hjL; injection h1 with h1; subst h1; rw [hyv] at h2; exact h2⟩))
              have hji : IntKind.i64.wrap ((i : Int) - 1) = (j : Int) := by rw [IntWalk.i64_in _ (by omega)]; omega
              have hltI : (i : Int) < (nw : Int) := by omega
              have hltJ : (j : Int) < (nw : Int) := by omega
              have hltJ' : j < nw := by omega
              have KR := Lib.hid (fun a b (V : World) (hV : Below wr.heap.size wr V) => con_k ((HKr.out.step hV).sub (fun k (e : k < W.heap.size) => .inl e)) (by omega) 0 a b)
              have hsp := Lib.hid (fun a b => lv_con HI.out HM.out a b)
              have hx := CC.out wr HBr.out
              clear hxv hyv hiL hj hjL
              go_upto_region 15 with fail
              refine wp_region_held_drew (S := fun w' => w'.cell? (ad.add i) = some (.int .u8 x) ∧ w'.cell? (ad.add j) = some (.int .u8 y)) (by kernel_rfl) ?_ (fun hHeld => ?_)
              · exact hx
              refine wpAnyH_take (i := 0) (v := ?_) rfl (by kernel_rfl) (by kernel_rfl) (by kernel_rfl) (fun _ _ _ h => h) (Or.inl ⟨by rfl, ?_⟩) (by assumption) ?_
              rotate_left
              · (intro w hSw; (try dsimp only at hSw); go_simp; try with_reducible rfl)
              try simp only [Act.put, List.setIfInBounds_toArray, List.set_cons_zero, List.set_cons_succ, List.getElem_toArray, List.getElem_cons_succ, List.getElem_cons_zero]
              refine wpAnyH_take (i := 1) (v := ?_) rfl (by kernel_rfl) (by kernel_rfl) (by kernel_rfl) (fun _ _ _ h => h) (Or.inl ⟨by rfl, ?_⟩) (by assumption) ?_
              rotate_left
              · (intro w hSw; (try dsimp only at hSw); go_simp; try with_reducible rfl)
              try simp only [Act.put, List.setIfInBounds_toArray, List.set_cons_zero, List.set_cons_succ, List.getElem_toArray, List.getElem_cons_succ, List.getElem_cons_zero]
              refine wpAnyH_take (i := 2) (v := ?_) rfl (by kernel_rfl) (by kernel_rfl) (by kernel_rfl) (fun _ _ _ h => h) (Or.inl ⟨by rfl, ?_⟩) (by assumption) ?_
              rotate_left
              · (intro w hSw; (try dsimp only at hSw); go_simp; try with_reducible rfl)
              try simp only [Act.put, List.setIfInBounds_toArray, List.set_cons_zero, List.set_cons_succ, List.getElem_toArray, List.getElem_cons_succ, List.getElem_cons_zero]
              refine wpAnyH_take (i := 3) (v := ?_) rfl (by kernel_rfl) (by kernel_rfl) (by kernel_rfl) (fun _ _ _ h => h) (Or.inl ⟨by rfl, ?_⟩) (by assumption) ?_
              rotate_left
              · (intro w hSw; (try dsimp only at hSw); go_simp; try with_reducible rfl)
              try simp only [Act.put, List.setIfInBounds_toArray, List.set_cons_zero, List.set_cons_succ, List.getElem_toArray, List.getElem_cons_succ, List.getElem_cons_zero]
              refine wpAnyH_take (i := 4) (v := ?_) rfl (by kernel_rfl) (by kernel_rfl) (by kernel_rfl) (fun _ _ _ h => h) (Or.inl ⟨by rfl, ?_⟩) (by assumption) ?_
              rotate_left
              · (intro w hSw; (try dsimp only at hSw); go_simp; try with_reducible rfl)
              try simp only [Act.put, List.setIfInBounds_toArray, List.set_cons_zero, List.set_cons_succ, List.getElem_toArray, List.getElem_cons_succ, List.getElem_cons_zero]
              refine wpAnyH_take (i := 5) (v := ?_) rfl (by kernel_rfl) (by kernel_rfl) (by kernel_rfl) (fun _ _ _ h => h) (Or.inl ⟨by rfl, ?_⟩) (by assumption) ?_
              rotate_left
              · (intro w hSw; (try dsimp only at hSw); go_simp; try with_reducible rfl)
              try simp only [Act.put, List.setIfInBounds_toArray, List.set_cons_zero, List.set_cons_succ, List.getElem_toArray, List.getElem_cons_succ, List.getElem_cons_zero]
              refine wpAnyH_take (i := 6) (v := ?_) rfl (by kernel_rfl) (by kernel_rfl) (by kernel_rfl) (fun _ _ _ h => h) (Or.inl ⟨by rfl, ?_⟩) (by assumption) ?_
              rotate_left
              · (intro w hSw; (try dsimp only at hSw); go_simp; try with_reducible rfl)
              try simp only [Act.put, List.setIfInBounds_toArray, List.set_cons_zero, List.set_cons_succ, List.getElem_toArray, List.getElem_cons_succ, List.getElem_cons_zero]
              refine wpAnyH_take (i := 7) (v := ?_) rfl (by kernel_rfl) (by kernel_rfl) (by kernel_rfl) (fun _ _ _ h => h) (Or.inl ⟨by rfl, ?_⟩) (by assumption) ?_
              rotate_left
              · (intro w hSw; (try dsimp only at hSw); go_simp; try with_reducible rfl)
              try simp only [Act.put, List.setIfInBounds_toArray, List.set_cons_zero, List.set_cons_succ, List.getElem_toArray, List.getElem_cons_succ, List.getElem_cons_zero]
              refine wpAnyH_take (i := 8) (v := ?_) rfl (by kernel_rfl) (by kernel_rfl) (by kernel_rfl) (fun _ _ _ h => h) (Or.inl ⟨by rfl, ?_⟩) (by assumption) ?_
              rotate_left
              · (intro w hSw; (try dsimp only at hSw); go_simp; try with_reducible rfl)
              try simp only [Act.put, List.setIfInBounds_toArray, List.set_cons_zero, List.set_cons_succ, List.getElem_toArray, List.getElem_cons_succ, List.getElem_cons_zero]
              refine wpAnyH_take (i := 9) (v := ?_) rfl (by kernel_rfl) (by kernel_rfl) (by kernel_rfl) (fun _ _ _ h => h) (Or.inl ⟨by rfl, ?_⟩) (by assumption) ?_
              rotate_left
              · (intro w hSw; (try dsimp only at hSw); go_simp; try with_reducible rfl)
              try simp only [Act.put, List.setIfInBounds_toArray, List.set_cons_zero, List.set_cons_succ, List.getElem_toArray, List.getElem_cons_succ, List.getElem_cons_zero]
              refine wpAnyH_take (i := 10) (v := ?_) rfl (by kernel_rfl) (by kernel_rfl) (by kernel_rfl) (fun _ _ _ h => h) (Or.inl ⟨by rfl, ?_⟩) (by assumption) ?_
              rotate_left
              · (intro w hSw; (try dsimp only at hSw); go_simp; try with_reducible rfl)
              try simp only [Act.put, List.setIfInBounds_toArray, List.set_cons_zero, List.set_cons_succ, List.getElem_toArray, List.getElem_cons_succ, List.getElem_cons_zero]
              refine wpAnyH_take (i := 11) (v := ?_) rfl (by kernel_rfl) (by kernel_rfl) (by kernel_rfl) (fun _ _ _ h => h) (Or.inl ⟨by rfl, ?_⟩) (by assumption) ?_
              rotate_left
              · (intro w hSw; (try dsimp only at hSw); go_simp; try with_reducible rfl)
              try simp only [Act.put, List.setIfInBounds_toArray, List.set_cons_zero, List.set_cons_succ, List.getElem_toArray, List.getElem_cons_succ, List.getElem_cons_zero]
              refine wpAnyH_take (i := 12) (v := ?_) rfl (by kernel_rfl) (by kernel_rfl) (by kernel_rfl) (fun _ _ _ h => h) (Or.inl ⟨by rfl, ?_⟩) (by assumption) ?_
              rotate_left
              · (intro w hSw; (try dsimp only at hSw); go_simp; try with_reducible rfl)
              try simp only [Act.put, List.setIfInBounds_toArray, List.set_cons_zero, List.set_cons_succ, List.getElem_toArray, List.getElem_cons_succ, List.getElem_cons_zero]
              refine wpAnyH_take (i := 13) (v := ?_) rfl (by kernel_rfl) (by kernel_rfl) (by kernel_rfl) (fun _ _ _ h => h) (Or.inl ⟨by rfl, ?_⟩) (by assumption) ?_
              rotate_left
              · (intro w hSw; (try dsimp only at hSw); go_simp; try with_reducible rfl)
              try simp only [Act.put, List.setIfInBounds_toArray, List.set_cons_zero, List.set_cons_succ, List.getElem_toArray, List.getElem_cons_succ, List.getElem_cons_zero]
              refine wpAnyH_take (i := 14) (v := ?_) rfl (by kernel_rfl) (by kernel_rfl) (by kernel_rfl) (fun _ _ _ h => h) (Or.inl ⟨by rfl, ?_⟩) (by assumption) ?_
              rotate_left
              · (intro w hSw; (try dsimp only at hSw); go_simp; try with_reducible rfl)
              try simp only [Act.put, List.setIfInBounds_toArray, List.set_cons_zero, List.set_cons_succ, List.getElem_toArray, List.getElem_cons_succ, List.getElem_cons_zero]
              refine wpAnyH_take (i := 15) (v := ?_) rfl (by kernel_rfl) (by kernel_rfl) (by kernel_rfl) (fun _ _ _ h => h) (Or.inl ⟨by rfl, ?_⟩) (by assumption) ?_
              rotate_left
              · (intro w hSw; (try dsimp only at hSw); go_simp; try with_reducible rfl)
              try simp only [Act.put, List.setIfInBounds_toArray, List.set_cons_zero, List.set_cons_succ, List.getElem_toArray, List.getElem_cons_succ, List.getElem_cons_zero]
              refine wpAnyH_ready (rs := [16]) (by kernel_rfl) (by simp) ?_
              refine AllReadyH.cons rfl (fun K hK => ?_) AllReadyH.nil
              go_simp
              go_at_call 14; (refine (KR.out _ _ (wr.drew) (drew_below wr)).mono ?_); rintro en w6 ⟨rfl, hk, hkp⟩; have HK6 := Lib.hid hk; have HB6 := Lib.hid (show Below W.heap.size W w6 from (HBr.out.trans (drew_below wr |>.mono HBr.out.size)).trans (hkp.toBelow (fun i hi => hi) HBr.out.size)); have hx6 := CC.out w6 HB6.out; clear hk hkp
              refine hK.out _ _ ?_ (fun hHeld => ?_)
              · exact hx6
              clear hK K
              try simp only [Act.put, List.setIfInBounds_toArray, List.set_cons_zero, List.set_cons_succ, List.getElem_toArray, List.getElem_cons_succ, List.getElem_cons_zero]
              refine wpAnyH_done (by kernel_rfl) ?_ _
              go_wp2
              go_roundw
              case rel => exact ⟨i + 1, _, by go_num, by omega, by omega, Lib.hid (hsp.out _ _), HK6, HB6⟩
              case measure => simp [intOf]; omega
            · have b1 : decide ((i : Int) < (nw : Int)) = false := decide_eq_false (by omega)
              have k8 := st_k HKr.out (show 20 + i ≤ 9000 by omega) 0 (by rw [HI.out.now]; exact Int.le_refl _) (by decide)
              unfold StK at k8
              have hst := lv_st HI.out
              rw [hst.2.2] at k8
              have HST := Lib.hid hst.1
              have HSC := Lib.hid hst.2.1
              have K8 := Lib.hid k8
              clear k8 hst
              go_upto_region 17 with (go_at_call 16; (with_reducible refine K8.out.mono ?_); rintro en w7 ⟨v1, v2, sz, rfl, ho1, ho2, hz, hk, hkp⟩; have HO2 := Lib.hid ho2; have HK7 := Lib.hid hk; have HB7 := Lib.hid (show Below W.heap.size W w7 from HBr.out.trans (hkp.toBelow (fun i hi => hi) HBr.out.size)); clear ho1 ho2 hz hk hkp)
              obtain ⟨q, hq, hqa, hqb⟩ := nine_mod who HWHO.out
              obtain ⟨p, hp⟩ : ∃ p, 1 + q = p := ⟨_, rfl⟩
              have hpb : 1 ≤ p ∧ p ≤ 9 := by omega
              have hwp : wrap64 p = p := by unfold wrap64; omega
              go_upto_region 18 with fail
              clear hq hqa hqb hp
              have k9 := leave_k HK7.out (show 20 + i ≤ 9000 by omega) 0 p (by rw [HST.out.now]; exact Int.le_refl _) (by decide) (by unfold I64; omega) HST.out.tC HST.out.live HST.out.apart
              unfold LeaveK at k9
              rw [HSC.out] at k9
              have hle := lv_leave HST.out p
              rw [HSC.out] at hle
              have HLE := Lib.hid hle
              have K9 := Lib.hid k9
              clear k9 hle
              go_upto_region 19 with (go_at_call 22; (with_reducible refine K9.out.mono ?_); rintro en w8 ⟨v3, sz3, rfl, ho3, hz3, hk, hkp⟩; have HO3 := Lib.hid ho3; have HK8 := Lib.hid hk; have HP8 := Lib.hid hkp; have HB8 := Lib.hid (show Below W.heap.size W w8 from HB7.out.trans (hkp.toBelow (fun i hi => .inl hi) HB7.out.size)); clear ho3 hz3 hk hkp)
              have k10 := st_k HK8.out (show 20 + i ≤ 9000 by omega) 0 (by rw [HLE.out.1]; exact Int.le_refl _) (by decide)
              unfold StK at k10
              rw [HLE.out.2.2] at k10
              have K10 := Lib.hid k10
              clear k10
              go_upto_region 20 with (go_at_call 16; (with_reducible refine K10.out.mono ?_); rintro en w9 ⟨v4, v5, sz5, rfl, ho4, ho5, hz5, hk, hkp⟩; have HO4 := Lib.hid ho4; have HO5 := Lib.hid ho5; have HP9 := Lib.hid hkp; have HB9 := Lib.hid (show Below W.heap.size W w9 from HB8.out.trans (hkp.toBelow (fun i hi => .inl (.inl hi)) HB8.out.size)); clear ho4 ho5 hz5 hk hkp)
              obtain ⟨C, hC⟩ : ∃ C, s.C = C := ⟨_, rfl⟩
              have hcl : C.length ≤ 10000 := by rw [← hC]; have := HKr.out.inv.clen; omega
              have ho2 : w9.ownsRow 0 50 6 v2 C.length (flatC C) := by
                have h1 := HO2.out
                rw [hC] at h1
                exact own_lower (own_stays h1 (fun b hb => (HP9.out.2.2.2.2 b (.inl (.inr (.inr hb)))).trans (HP8.out.2.2.2.2 b (.inr (.inr hb))))) (Nat.zero_le _)
              have ho3 : w9.ownsRow 0 3 1 v3 (endsL C p).length ((endsL C p).map encI) := by
                have h1 := HO3.out
                rw [hC] at h1
                exact own_lower (own_stays h1 (fun b hb => HP9.out.2.2.2.2 b (.inr hb))) (Nat.zero_le _)
              have ho4 := own_lower HO4.out (Nat.zero_le _)
              have ho5 := own_lower HO5.out (Nat.zero_le _)
              rw [hC] at ho5
              obtain ⟨R, hR⟩ : ∃ R, overL (LeaveF (StF s 0) 0 p).R 0 = R := ⟨_, rfl⟩
              have hRp := HLE.out.2.1
              rw [hR] at hRp ho4
              have HRP := Lib.hid hRp
              have hRl : R.length ≤ 10000 := by rw [← hR]; have := overL_len (LeaveF (StF s 0) 0 p).R 0; have := HK8.out.inv.rlen; omega
              obtain ⟨A2, c2, hv2, hra2⟩ := row_at ho2
              obtain ⟨A3, c3, hv3, hra3⟩ := rowI_cells ho3
              obtain ⟨A4, c4, hv4, hra4⟩ := rowH_cells ho4
              obtain ⟨A5, c5, hv5, hra5⟩ := row_at ho5
              have HEE := Lib.hid (ends_end C p)
              obtain ⟨n2, hn2⟩ : ∃ n, C.length = n := ⟨_, rfl⟩
              obtain ⟨n3, hn3⟩ : ∃ n, (endsL C p).length = n := ⟨_, rfl⟩
              obtain ⟨n4, hn4⟩ : ∃ n, R.length = n := ⟨_, rfl⟩
              obtain ⟨n5, hn5⟩ : ∃ n, (C.filter (fun c => !isEnd p c)).length = n := ⟨_, rfl⟩
              rw [hn2] at hv2
              rw [hn3] at hv3
              rw [hn4] at hv4
              rw [hn5] at hv5
              subst hv2 hv3 hv4 hv5
              have HR2 := Lib.hid hra2
              have HR3 := Lib.hid hra3
              have HR4 := Lib.hid hra4
              have HR5 := Lib.hid hra5
              have HN2 := Lib.hid hn2
              have HN3 := Lib.hid hn3
              have HN4 := Lib.hid hn4
              have HN5 := Lib.hid hn5
              have hn2b : n2 ≤ 10000 := by omega
              have hn4b : n4 ≤ 10000 := by omega
              have hn3b : n3 ≤ n2 := by have := HEE.out; omega
              have hn5b : n5 = n2 - n3 := by have := HEE.out; omega
              have HN5' := Lib.hid hn5b
              clear hra2 hra3 hra4 hra5 hn2 hn3 hn4 hn5 ho2 ho3 ho4 ho5 hC hcl hR hRp hRl hn5b HST HSC HLE HI hwp K8 K9 K10
              go_upto_region 21 with fail
              go_loopw [17] (fun x17 wr => ∃ k : Nat, x17 = .int .i64 k ∧ k ≤ n4 ∧ Hid (Below w9.heap.size w9 wr)) (fun x17 _ => n4 - (intOf x17).toNat)
              case atStart => exact ⟨0, rfl, Nat.zero_le _, Lib.hid (Below.refl _ _)⟩
              case round =>
                obtain ⟨k, rfl, hk4, HB10⟩ := hrel
                by_cases hk : k < n4
                · have b4 : decide ((k : Int) < (n4 : Int)) = true := decide_eq_true (by omega)
                  have hkL : k < R.length := by rw [HN4.out]; exact hk
                  obtain ⟨gr, rfl, hxx⟩ : ∃ gr, A4 = some ⟨gr, 0, none⟩ ∧ wr.cell? ⟨gr, k * 3, none⟩ = some (.int .i64 R[k].1) := by
                    rcases HR4.out with h | ⟨gr, h1, _, h2, _, h3⟩
                    · omega
                    · exact ⟨gr, h1, (h3 wr (HB10.out.block gr h2) k hkL).1⟩
                  have b5 : (R[k].1 == p) = false := by simpa using HRP.out _ (List.getElem_mem hkL)
                  obtain ⟨z, hz⟩ : ∃ z, R[k].1 = z := ⟨_, rfl⟩
                  rw [hz] at hxx b5
                  have hkI : (k : Int) < (n4 : Int) := by omega
                  clear hz hkL
                  go_wp2
                  go_roundw
                  case rel => exact ⟨k + 1, by go_num, by omega, HB10⟩
                  case measure => simp [intOf]; omega
                · have b4 : decide ((k : Int) < (n4 : Int)) = false := decide_eq_false (by omega)
                  go_upto_region 27 with fail
                  go_loopw [18, 19] (fun x18 x19 wr => ∃ k i : Nat, x18 = .int .i64 k ∧ x19 = .int .i64 i ∧ i ≤ n2 ∧ k ≤ i ∧ Hid ((endsL (C.take i) p).length = k) ∧ Hid (Below w9.heap.size w9 wr)) (fun _ x19 _ => n2 - (intOf x19).toNat)
                  case atStart => exact ⟨0, 0, rfl, rfl, Nat.zero_le _, Nat.le_refl _, Lib.hid rfl, HB10⟩
                  case round =>
                    clear HB10
                    obtain ⟨k, i, rfl, rfl, hi2, hki, HKI, HB11⟩ := hrel
                    by_cases hi : i < n2
                    · have b5 : decide ((i : Int) < (n2 : Int)) = true := decide_eq_true (by omega)
                      have hiC : i < C.length := by rw [HN2.out]; exact hi
                      obtain ⟨gr, rfl, hxx⟩ : ∃ gr, A2 = some ⟨gr, 0, none⟩ ∧ Hid (∀ j (hj : j < 6), wr.cell? ⟨gr, i * 6 + j, none⟩ = (cirC C[i])[j]?) := by
                        rcases HR2.out with h | ⟨gr, h1, _, h2, h3⟩
                        · omega
                        · exact ⟨gr, h1, Lib.hid (fun j hj => h3 wr (HB11.out.block gr h2) i hiC j hj)⟩
                      have hend := endsL_take C p i hiC
                      have hat := ends_at C p i hiC
                      have hkp := kept_at C p i hiC
                      obtain ⟨⟨z0, z1, z2, z3, z4, z5⟩, hzz⟩ : ∃ q, C[i] = q := ⟨_, rfl⟩
                      have x0 : wr.cell? ⟨gr, i * 6, none⟩ = some (.int .i64 z0) := by have h := hxx.out 0 (by omega); rw [hzz] at h; exact h
                      have x1 : wr.cell? ⟨gr, i * 6 + 1, none⟩ = some (.int .i64 z1) := by have h := hxx.out 1 (by omega); rw [hzz] at h; exact h
                      have x2 : wr.cell? ⟨gr, i * 6 + 2, none⟩ = some (.int .i64 z2) := by have h := hxx.out 2 (by omega); rw [hzz] at h; exact h
                      have x3 : wr.cell? ⟨gr, i * 6 + 3, none⟩ = some (.int .i64 z3) := by have h := hxx.out 3 (by omega); rw [hzz] at h; exact h
                      have x4 : wr.cell? ⟨gr, i * 6 + 4, none⟩ = some (.int .i64 z4) := by have h := hxx.out 4 (by omega); rw [hzz] at h; exact h
                      have x5 : wr.cell? ⟨gr, i * 6 + 5, none⟩ = some (.int .i64 z5) := by have h := hxx.out 5 (by omega); rw [hzz] at h; exact h
                      rw [hzz] at hend hat hkp
                      have hat2 : isEnd p (z0, z1, z2, z3, z4, z5) = true → ∃ hq : k < (endsL C p).length, (endsL C p)[k] = z0 := fun h => by obtain ⟨h1, h2⟩ := hat h; have e := HKI.out; subst e; exact ⟨h1, h2⟩
                      have hkp2 : isEnd p (z0, z1, z2, z3, z4, z5) = false → ∃ hq : i - k < (C.filter (fun c => !isEnd p c)).length, (C.filter (fun c => !isEnd p c))[i - k] = (z0, z1, z2, z3, z4, z5) ∧ k ≤ i := fun h => by obtain ⟨h1, h2⟩ := hkp h; have e := HKI.out; subst e; exact ⟨h1, h2⟩
                      have hiI : (i : Int) < (n2 : Int) := by omega
                      have HE := Lib.hid hend
                      have HA := Lib.hid hat2
                      have HKP := Lib.hid hkp2
                      clear hzz hend hat hkp hat2 hkp2 hiC hxx
                      by_cases ha : z1 = p
                      · have b6 : (z1 == p) = true := by simpa using ha
                        have hE : isEnd p (z0, z1, z2, z3, z4, z5) = true := by simp [isEnd, ha]
                        have he := HE.out
                        rw [if_pos hE] at he
                        obtain ⟨hk3, hkv⟩ := HA.out hE
                        rw [HN3.out] at hk3
                        obtain ⟨gq, rfl, hyy⟩ : ∃ gq, A3 = some ⟨gq, 0, none⟩ ∧ wr.cell? ⟨gq, k, none⟩ = some (.int .i64 z0) := by
                          rcases HR3.out with h | ⟨gq, h1, _, h2, h3⟩
                          · omega
                          · refine ⟨gq, h1, ?_⟩
                            have h := h3 wr (HB11.out.block gq h2) k (by omega)
                            rw [hkv] at h
                            exact h
                        have HHE := Lib.hid he
                        have hk3I : (k : Int) < (n3 : Int) := by omega
                        have b7 : decide ((k : Int) ≥ (n3 : Int)) = false := decide_eq_false (by omega)
                        have b7' : decide ((n3 : Int) ≤ (k : Int)) = false := decide_eq_false (by omega)
                        have b7'' : decide (n3 ≤ k) = false := decide_eq_false (by omega)
                        have hg1 : IntKind.i64.wrap ((k : Int) + 1) = (k : Int) + 1 := IntWalk.i64_in _ (by omega)
                        clear hE he hkv x3 x4 x5
                        go_upto_region 30 with fail
                        refine wp_region_held_drew (S := fun w' => w'.cell? ⟨gq, k, none⟩ = some (.int .i64 z0) ∧ w'.cell? ⟨gr, i * 6, none⟩ = some (.int .i64 z0)) (by kernel_rfl) ?_ (fun hHeld => ?_)
                        · exact ⟨hyy, x0⟩
                        refine wpAnyH_take (i := 0) (v := ?_) rfl (by kernel_rfl) (by kernel_rfl) (by kernel_rfl) (fun _ _ _ h => h) (Or.inl ⟨by rfl, ?_⟩) (by assumption) ?_
                        rotate_left
                        · (intro w hSw; (try dsimp only at hSw); go_simp; try with_reducible rfl)
                        try simp only [Act.put, List.setIfInBounds_toArray, List.set_cons_zero, List.set_cons_succ, List.getElem_toArray, List.getElem_cons_succ, List.getElem_cons_zero]
                        refine wpAnyH_take (i := 1) (v := ?_) rfl (by kernel_rfl) (by kernel_rfl) (by kernel_rfl) (fun _ _ _ h => h) (Or.inl ⟨by rfl, ?_⟩) (by assumption) ?_
                        rotate_left
                        · (intro w hSw; (try dsimp only at hSw); go_simp; try with_reducible rfl)
                        try simp only [Act.put, List.setIfInBounds_toArray, List.set_cons_zero, List.set_cons_succ, List.getElem_toArray, List.getElem_cons_succ, List.getElem_cons_zero]
                        refine wpAnyH_take (i := 2) (v := ?_) rfl (by kernel_rfl) (by kernel_rfl) (by kernel_rfl) (fun _ _ _ h => h) (Or.inl ⟨by rfl, ?_⟩) (by assumption) ?_
                        rotate_left
                        · (intro w hSw; (try dsimp only at hSw); go_simp; try with_reducible rfl)
                        try simp only [Act.put, List.setIfInBounds_toArray, List.set_cons_zero, List.set_cons_succ, List.getElem_toArray, List.getElem_cons_succ, List.getElem_cons_zero]
                        refine wpAnyH_take (i := 3) (v := ?_) rfl (by kernel_rfl) (by kernel_rfl) (by kernel_rfl) (fun _ _ _ h => h) (Or.inl ⟨by rfl, ?_⟩) (by assumption) ?_
                        rotate_left
                        · (intro w hSw; (try dsimp only at hSw); go_simp; try with_reducible rfl)
                        try simp only [Act.put, List.setIfInBounds_toArray, List.set_cons_zero, List.set_cons_succ, List.getElem_toArray, List.getElem_cons_succ, List.getElem_cons_zero]
                        refine wpAnyH_take (i := 4) (v := ?_) rfl (by kernel_rfl) (by kernel_rfl) (by kernel_rfl) (fun _ _ _ h => h) (Or.inl ⟨by rfl, ?_⟩) (by assumption) ?_
                        rotate_left
                        · (intro w hSw; (try dsimp only at hSw); go_simp; try with_reducible rfl)
                        try simp only [Act.put, List.setIfInBounds_toArray, List.set_cons_zero, List.set_cons_succ, List.getElem_toArray, List.getElem_cons_succ, List.getElem_cons_zero]
                        refine wpAnyH_take (i := 5) (v := ?_) rfl (by kernel_rfl) (by kernel_rfl) (by kernel_rfl) (fun _ _ _ h => h) (Or.inl ⟨by rfl, ?_⟩) (by assumption) ?_
                        rotate_left
                        · (intro w hSw; (try dsimp only at hSw); go_simp; try with_reducible rfl)
                        try simp only [Act.put, List.setIfInBounds_toArray, List.set_cons_zero, List.set_cons_succ, List.getElem_toArray, List.getElem_cons_succ, List.getElem_cons_zero]
                        refine wpAnyH_take (i := 6) (v := ?_) rfl (by kernel_rfl) (by kernel_rfl) (by kernel_rfl) (fun _ _ _ h => h) (Or.inl ⟨by rfl, ?_⟩) (by assumption) ?_
                        rotate_left
                        · (intro w hSw; (try dsimp only at hSw); go_simp; try with_reducible rfl)
                        try simp only [Act.put, List.setIfInBounds_toArray, List.set_cons_zero, List.set_cons_succ, List.getElem_toArray, List.getElem_cons_succ, List.getElem_cons_zero]
                        refine wpAnyH_take (i := 7) (v := ?_) rfl (by kernel_rfl) (by kernel_rfl) (by kernel_rfl) (fun _ _ _ h => h) (Or.inl ⟨by rfl, ?_⟩) (by assumption) ?_
                        rotate_left
                        · (intro w hSw; (try dsimp only at hSw); go_simp; try with_reducible rfl)
                        try simp only [Act.put, List.setIfInBounds_toArray, List.set_cons_zero, List.set_cons_succ, List.getElem_toArray, List.getElem_cons_succ, List.getElem_cons_zero]
                        refine wpAnyH_take (i := 8) (v := ?_) rfl (by kernel_rfl) (by kernel_rfl) (by kernel_rfl) (fun _ _ _ h => h) (Or.inl ⟨by rfl, ?_⟩) (by assumption) ?_
                        rotate_left
                        · (intro w hSw; (try dsimp only at hSw); go_simp; try with_reducible rfl)
                        try simp only [Act.put, List.setIfInBounds_toArray, List.set_cons_zero, List.set_cons_succ, List.getElem_toArray, List.getElem_cons_succ, List.getElem_cons_zero]
                        refine wpAnyH_take (i := 9) (v := ?_) rfl (by kernel_rfl) (by kernel_rfl) (by kernel_rfl) (fun _ _ _ h => h) (Or.inl ⟨by rfl, ?_⟩) (by assumption) ?_
                        rotate_left
                        · (intro w hSw; (try dsimp only at hSw); go_simp; try with_reducible rfl)
                        try simp only [Act.put, List.setIfInBounds_toArray, List.set_cons_zero, List.set_cons_succ, List.getElem_toArray, List.getElem_cons_succ, List.getElem_cons_zero]
                        refine wpAnyH_take (i := 10) (v := ?_) rfl (by kernel_rfl) (by kernel_rfl) (by kernel_rfl) (fun _ _ _ h => h) (Or.inl ⟨by rfl, ?_⟩) (by assumption) ?_
                        rotate_left
                        · (intro w hSw; (try dsimp only at hSw); go_simp; try with_reducible rfl)
                        try simp only [Act.put, List.setIfInBounds_toArray, List.set_cons_zero, List.set_cons_succ, List.getElem_toArray, List.getElem_cons_succ, List.getElem_cons_zero]
                        refine wpAnyH_take (i := 11) (v := ?_) rfl (by kernel_rfl) (by kernel_rfl) (by kernel_rfl) (fun _ _ _ h => h) (Or.inl ⟨by rfl, ?_⟩) (by assumption) ?_
                        rotate_left
                        · (intro w hSw; (try dsimp only at hSw); go_simp; try with_reducible rfl)
                        try simp only [Act.put, List.setIfInBounds_toArray, List.set_cons_zero, List.set_cons_succ, List.getElem_toArray, List.getElem_cons_succ, List.getElem_cons_zero]
                        refine wpAnyH_take (i := 12) (v := ?_) rfl (by kernel_rfl) (by kernel_rfl) (by kernel_rfl) (fun _ _ _ h => h) (Or.inl ⟨by rfl, ?_⟩) (by assumption) ?_
                        rotate_left
                        · (intro w hSw; (try dsimp only at hSw); go_simp; try with_reducible rfl)
                        try simp only [Act.put, List.setIfInBounds_toArray, List.set_cons_zero, List.set_cons_succ, List.getElem_toArray, List.getElem_cons_succ, List.getElem_cons_zero]
                        refine wpAnyH_take (i := 13) (v := ?_) rfl (by kernel_rfl) (by kernel_rfl) (by kernel_rfl) (fun _ _ _ h => h) (Or.inl ⟨by rfl, ?_⟩) (by assumption) ?_
                        rotate_left
                        · (intro w hSw; (try dsimp only at hSw); go_simp; try with_reducible rfl)
                        try simp only [Act.put, List.setIfInBounds_toArray, List.set_cons_zero, List.set_cons_succ, List.getElem_toArray, List.getElem_cons_succ, List.getElem_cons_zero]
                        refine wpAnyH_take (i := 14) (v := ?_) rfl (by kernel_rfl) (by kernel_rfl) (by kernel_rfl) (fun _ _ _ h => h) (Or.inl ⟨by rfl, ?_⟩) (by assumption) ?_
                        rotate_left
                        · (intro w hSw; (try dsimp only at hSw); go_simp; try with_reducible rfl)
                        try simp only [Act.put, List.setIfInBounds_toArray, List.set_cons_zero, List.set_cons_succ, List.getElem_toArray, List.getElem_cons_succ, List.getElem_cons_zero]
                        refine wpAnyH_take (i := 15) (v := ?_) rfl (by kernel_rfl) (by kernel_rfl) (by kernel_rfl) (fun _ _ _ h => h) (Or.inl ⟨by rfl, ?_⟩) (by assumption) ?_
                        rotate_left
                        · (intro w hSw; (try dsimp only at hSw); go_simp; try with_reducible rfl)
                        try simp only [Act.put, List.setIfInBounds_toArray, List.set_cons_zero, List.set_cons_succ, List.getElem_toArray, List.getElem_cons_succ, List.getElem_cons_zero]
                        refine wpAnyH_done (by kernel_rfl) ?_ _
                        go_wp2
                        go_roundw
                        case rel => exact ⟨k + 1, i + 1, by go_num, by go_num, by omega, by omega, Lib.hid (by rw [HHE.out, List.length_append, HKI.out]; rfl), Lib.hid (HB11.out.trans ⟨rfl, rfl, rfl, Nat.le_refl _, fun _ _ => rfl⟩)⟩
                        case measure => simp [intOf]; omega
                      · have b6 : (z1 == p) = false := by simpa using ha
                        by_cases hb : z2 = p
                        · have b6' : (z2 == p) = true := by simpa using hb
                          have hE : isEnd p (z0, z1, z2, z3, z4, z5) = true := by simp [isEnd, ha, hb]
                          have he := HE.out
                          rw [if_pos hE] at he
                          obtain ⟨hk3, hkv⟩ := HA.out hE
                          rw [HN3.out] at hk3
                          obtain ⟨gq, rfl, hyy⟩ : ∃ gq, A3 = some ⟨gq, 0, none⟩ ∧ wr.cell? ⟨gq, k, none⟩ = some (.int .i64 z0) := by
                            rcases HR3.out with h | ⟨gq, h1, _, h2, h3⟩
                            · omega
                            · refine ⟨gq, h1, ?_⟩
                              have h := h3 wr (HB11.out.block gq h2) k (by omega)
                              rw [hkv] at h
                              exact h
                          have HHE := Lib.hid he
                          have hk3I : (k : Int) < (n3 : Int) := by omega
                          have b7 : decide ((k : Int) ≥ (n3 : Int)) = false := decide_eq_false (by omega)
                          have b7' : decide ((n3 : Int) ≤ (k : Int)) = false := decide_eq_false (by omega)
                          have b7'' : decide (n3 ≤ k) = false := decide_eq_false (by omega)
                          have hg1 : IntKind.i64.wrap ((k : Int) + 1) = (k : Int) + 1 := IntWalk.i64_in _ (by omega)
                          clear hE he hkv x3 x4 x5
                          go_upto_region 30 with fail
                          refine wp_region_held_drew (S := fun w' => w'.cell? ⟨gq, k, none⟩ = some (.int .i64 z0) ∧ w'.cell? ⟨gr, i * 6, none⟩ = some (.int .i64 z0)) (by kernel_rfl) ?_ (fun hHeld => ?_)
                          · exact ⟨hyy, x0⟩
                          refine wpAnyH_take (i := 0) (v := ?_) rfl (by kernel_rfl) (by kernel_rfl) (by kernel_rfl) (fun _ _ _ h => h) (Or.inl ⟨by rfl, ?_⟩) (by assumption) ?_
                          rotate_left
                          · (intro w hSw; (try dsimp only at hSw); go_simp; try with_reducible rfl)
                          try simp only [Act.put, List.setIfInBounds_toArray, List.set_cons_zero, List.set_cons_succ, List.getElem_toArray, List.getElem_cons_succ, List.getElem_cons_zero]
                          refine wpAnyH_take (i := 1) (v := ?_) rfl (by kernel_rfl) (by kernel_rfl) (by kernel_rfl) (fun _ _ _ h => h) (Or.inl ⟨by rfl, ?_⟩) (by assumption) ?_
                          rotate_left
                          · (intro w hSw; (try dsimp only at hSw); go_simp; try with_reducible rfl)
                          try simp only [Act.put, List.setIfInBounds_toArray, List.set_cons_zero, List.set_cons_succ, List.getElem_toArray, List.getElem_cons_succ, List.getElem_cons_zero]
                          refine wpAnyH_take (i := 2) (v := ?_) rfl (by kernel_rfl) (by kernel_rfl) (by kernel_rfl) (fun _ _ _ h => h) (Or.inl ⟨by rfl, ?_⟩) (by assumption) ?_
                          rotate_left
                          · (intro w hSw; (try dsimp only at hSw); go_simp; try with_reducible rfl)
                          try simp only [Act.put, List.setIfInBounds_toArray, List.set_cons_zero, List.set_cons_succ, List.getElem_toArray, List.getElem_cons_succ, List.getElem_cons_zero]
                          refine wpAnyH_take (i := 3) (v := ?_) rfl (by kernel_rfl) (by kernel_rfl) (by kernel_rfl) (fun _ _ _ h => h) (Or.inl ⟨by rfl, ?_⟩) (by assumption) ?_
                          rotate_left
                          · (intro w hSw; (try dsimp only at hSw); go_simp; try with_reducible rfl)
                          try simp only [Act.put, List.setIfInBounds_toArray, List.set_cons_zero, List.set_cons_succ, List.getElem_toArray, List.getElem_cons_succ, List.getElem_cons_zero]
                          refine wpAnyH_take (i := 4) (v := ?_) rfl (by kernel_rfl) (by kernel_rfl) (by kernel_rfl) (fun _ _ _ h => h) (Or.inl ⟨by rfl, ?_⟩) (by assumption) ?_
                          rotate_left
                          · (intro w hSw; (try dsimp only at hSw); go_simp; try with_reducible rfl)
                          try simp only [Act.put, List.setIfInBounds_toArray, List.set_cons_zero, List.set_cons_succ, List.getElem_toArray, List.getElem_cons_succ, List.getElem_cons_zero]
                          refine wpAnyH_take (i := 5) (v := ?_) rfl (by kernel_rfl) (by kernel_rfl) (by kernel_rfl) (fun _ _ _ h => h) (Or.inl ⟨by rfl, ?_⟩) (by assumption) ?_
                          rotate_left
                          · (intro w hSw; (try dsimp only at hSw); go_simp; try with_reducible rfl)
                          try simp only [Act.put, List.setIfInBounds_toArray, List.set_cons_zero, List.set_cons_succ, List.getElem_toArray, List.getElem_cons_succ, List.getElem_cons_zero]
                          refine wpAnyH_take (i := 6) (v := ?_) rfl (by kernel_rfl) (by kernel_rfl) (by kernel_rfl) (fun _ _ _ h => h) (Or.inl ⟨by rfl, ?_⟩) (by assumption) ?_
                          rotate_left
                          · (intro w hSw; (try dsimp only at hSw); go_simp; try with_reducible rfl)
                          try simp only [Act.put, List.setIfInBounds_toArray, List.set_cons_zero, List.set_cons_succ, List.getElem_toArray, List.getElem_cons_succ, List.getElem_cons_zero]
                          refine wpAnyH_take (i := 7) (v := ?_) rfl (by kernel_rfl) (by kernel_rfl) (by kernel_rfl) (fun _ _ _ h => h) (Or.inl ⟨by rfl, ?_⟩) (by assumption) ?_
                          rotate_left
                          · (intro w hSw; (try dsimp only at hSw); go_simp; try with_reducible rfl)
                          try simp only [Act.put, List.setIfInBounds_toArray, List.set_cons_zero, List.set_cons_succ, List.getElem_toArray, List.getElem_cons_succ, List.getElem_cons_zero]
                          refine wpAnyH_take (i := 8) (v := ?_) rfl (by kernel_rfl) (by kernel_rfl) (by kernel_rfl) (fun _ _ _ h => h) (Or.inl ⟨by rfl, ?_⟩) (by assumption) ?_
                          rotate_left
                          · (intro w hSw; (try dsimp only at hSw); go_simp; try with_reducible rfl)
                          try simp only [Act.put, List.setIfInBounds_toArray, List.set_cons_zero, List.set_cons_succ, List.getElem_toArray, List.getElem_cons_succ, List.getElem_cons_zero]
                          refine wpAnyH_take (i := 9) (v := ?_) rfl (by kernel_rfl) (by kernel_rfl) (by kernel_rfl) (fun _ _ _ h => h) (Or.inl ⟨by rfl, ?_⟩) (by assumption) ?_
                          rotate_left
                          · (intro w hSw; (try dsimp only at hSw); go_simp; try with_reducible rfl)
                          try simp only [Act.put, List.setIfInBounds_toArray, List.set_cons_zero, List.set_cons_succ, List.getElem_toArray, List.getElem_cons_succ, List.getElem_cons_zero]
                          refine wpAnyH_take (i := 10) (v := ?_) rfl (by kernel_rfl) (by kernel_rfl) (by kernel_rfl) (fun _ _ _ h => h) (Or.inl ⟨by rfl, ?_⟩) (by assumption) ?_
                          rotate_left
                          · (intro w hSw; (try dsimp only at hSw); go_simp; try with_reducible rfl)
                          try simp only [Act.put, List.setIfInBounds_toArray, List.set_cons_zero, List.set_cons_succ, List.getElem_toArray, List.getElem_cons_succ, List.getElem_cons_zero]
                          refine wpAnyH_take (i := 11) (v := ?_) rfl (by kernel_rfl) (by kernel_rfl) (by kernel_rfl) (fun _ _ _ h => h) (Or.inl ⟨by rfl, ?_⟩) (by assumption) ?_
                          rotate_left
                          · (intro w hSw; (try dsimp only at hSw); go_simp; try with_reducible rfl)
                          try simp only [Act.put, List.setIfInBounds_toArray, List.set_cons_zero, List.set_cons_succ, List.getElem_toArray, List.getElem_cons_succ, List.getElem_cons_zero]
                          refine wpAnyH_take (i := 12) (v := ?_) rfl (by kernel_rfl) (by kernel_rfl) (by kernel_rfl) (fun _ _ _ h => h) (Or.inl ⟨by rfl, ?_⟩) (by assumption) ?_
                          rotate_left
                          · (intro w hSw; (try dsimp only at hSw); go_simp; try with_reducible rfl)
                          try simp only [Act.put, List.setIfInBounds_toArray, List.set_cons_zero, List.set_cons_succ, List.getElem_toArray, List.getElem_cons_succ, List.getElem_cons_zero]
                          refine wpAnyH_take (i := 13) (v := ?_) rfl (by kernel_rfl) (by kernel_rfl) (by kernel_rfl) (fun _ _ _ h => h) (Or.inl ⟨by rfl, ?_⟩) (by assumption) ?_
                          rotate_left
                          · (intro w hSw; (try dsimp only at hSw); go_simp; try with_reducible rfl)
                          try simp only [Act.put, List.setIfInBounds_toArray, List.set_cons_zero, List.set_cons_succ, List.getElem_toArray, List.getElem_cons_succ, List.getElem_cons_zero]
                          refine wpAnyH_take (i := 14) (v := ?_) rfl (by kernel_rfl) (by kernel_rfl) (by kernel_rfl) (fun _ _ _ h => h) (Or.inl ⟨by rfl, ?_⟩) (by assumption) ?_
                          rotate_left
                          · (intro w hSw; (try dsimp only at hSw); go_simp; try with_reducible rfl)
                          try simp only [Act.put, List.setIfInBounds_toArray, List.set_cons_zero, List.set_cons_succ, List.getElem_toArray, List.getElem_cons_succ, List.getElem_cons_zero]
                          refine wpAnyH_take (i := 15) (v := ?_) rfl (by kernel_rfl) (by kernel_rfl) (by kernel_rfl) (fun _ _ _ h => h) (Or.inl ⟨by rfl, ?_⟩) (by assumption) ?_
                          rotate_left
                          · (intro w hSw; (try dsimp only at hSw); go_simp; try with_reducible rfl)
                          try simp only [Act.put, List.setIfInBounds_toArray, List.set_cons_zero, List.set_cons_succ, List.getElem_toArray, List.getElem_cons_succ, List.getElem_cons_zero]
                          refine wpAnyH_done (by kernel_rfl) ?_ _
                          go_wp2
                          go_roundw
                          case rel => exact ⟨k + 1, i + 1, by go_num, by go_num, by omega, by omega, Lib.hid (by rw [HHE.out, List.length_append, HKI.out]; rfl), Lib.hid (HB11.out.trans ⟨rfl, rfl, rfl, Nat.le_refl _, fun _ _ => rfl⟩)⟩
                          case measure => simp [intOf]; omega
                        · have b6' : (z2 == p) = false := by simpa using hb
                          have hE : isEnd p (z0, z1, z2, z3, z4, z5) = false := by simp [isEnd, ha, hb]
                          have he := HE.out
                          rw [if_neg (by rw [hE]; exact Bool.false_ne_true)] at he
                          obtain ⟨hk5, hkv, hke⟩ := HKP.out hE
                          rw [HN5.out] at hk5
                          obtain ⟨j, hj⟩ : ∃ j, i - k = j := ⟨_, rfl⟩
                          have hkv' : ∃ hq : j < (C.filter (fun c => !isEnd p c)).length, (C.filter (fun c => !isEnd p c))[j] = (z0, z1, z2, z3, z4, z5) := by subst hj; exact ⟨by rw [HN5.out]; exact hk5, hkv⟩
                          have hj5 : j < n5 := by omega
                          have hjI : (j : Int) < (n5 : Int) := by omega
                          have hji : IntKind.i64.wrap ((i : Int) - k) = (j : Int) := by rw [IntWalk.i64_in _ (by omega)]; omega
                          have b7 : decide ((j : Int) ≥ (n5 : Int)) = false := decide_eq_false (by omega)
                          have b7' : decide ((n5 : Int) ≤ (j : Int)) = false := decide_eq_false (by omega)
                          have b7'' : decide (n5 ≤ j) = false := decide_eq_false (by omega)
                          clear hkv hk5
                          obtain ⟨gq, rfl, hyy⟩ : ∃ gq, A5 = some ⟨gq, 0, none⟩ ∧ Hid (∀ t (ht : t < 6), wr.cell? ⟨gq, j * 6 + t, none⟩ = (cirC (z0, z1, z2, z3, z4, z5))[t]?) := by
                            obtain ⟨hq, hv⟩ := hkv'
                            rcases HR5.out with h | ⟨gq, h1, _, h2, h3⟩
                            · omega
                            · exact ⟨gq, h1, Lib.hid (fun t ht => by have h := h3 wr (HB11.out.block gq h2) j hq t ht; rw [hv] at h; exact h)⟩
                          have y0 : wr.cell? ⟨gq, j * 6, none⟩ = some (.int .i64 z0) := hyy.out 0 (by omega)
                          have y1 : wr.cell? ⟨gq, j * 6 + 1, none⟩ = some (.int .i64 z1) := hyy.out 1 (by omega)
                          have y2 : wr.cell? ⟨gq, j * 6 + 2, none⟩ = some (.int .i64 z2) := hyy.out 2 (by omega)
                          have y3 : wr.cell? ⟨gq, j * 6 + 3, none⟩ = some (.int .i64 z3) := hyy.out 3 (by omega)
                          have y4 : wr.cell? ⟨gq, j * 6 + 4, none⟩ = some (.int .i64 z4) := hyy.out 4 (by omega)
                          have y5 : wr.cell? ⟨gq, j * 6 + 5, none⟩ = some (.int .i64 z5) := hyy.out 5 (by omega)
                          have HHE := Lib.hid he
                          have qn := fun (w : World) => neq_cir w z0 z1 z2 z3 z4 z5
                          dsimp only [cirA] at qn
                          clear hE he hkv' hj hyy
                          go_upto_region 33 with fail
                          refine wp_region_held_drew (S := fun w' => w'.cell? ⟨gq, j * 6, none⟩ = some (.int .i64 z0) ∧ w'.cell? ⟨gq, j * 6 + 1, none⟩ = some (.int .i64 z1) ∧ w'.cell? ⟨gq, j * 6 + 2, none⟩ = some (.int .i64 z2) ∧ w'.cell? ⟨gq, j * 6 + 3, none⟩ = some (.int .i64 z3) ∧ w'.cell? ⟨gq, j * 6 + 4, none⟩ = some (.int .i64 z4) ∧ w'.cell? ⟨gq, j * 6 + 5, none⟩ = some (.int .i64 z5) ∧ w'.cell? ⟨gr, i * 6, none⟩ = some (.int .i64 z0) ∧ w'.cell? ⟨gr, i * 6 + 1, none⟩ = some (.int .i64 z1) ∧ w'.cell? ⟨gr, i * 6 + 2, none⟩ = some (.int .i64 z2) ∧ w'.cell? ⟨gr, i * 6 + 3, none⟩ = some (.int .i64 z3) ∧ w'.cell? ⟨gr, i * 6 + 4, none⟩ = some (.int .i64 z4) ∧ w'.cell? ⟨gr, i * 6 + 5, none⟩ = some (.int .i64 z5)) (by kernel_rfl) ?_ (fun hHeld => ?_)
                          · exact ⟨y0, y1, y2, y3, y4, y5, x0, x1, x2, x3, x4, x5⟩
                          refine wpAnyH_take (i := 0) (v := ?_) rfl (by kernel_rfl) (by kernel_rfl) (by kernel_rfl) (fun _ _ _ h => h) (Or.inl ⟨by rfl, ?_⟩) (by assumption) ?_
                          rotate_left
                          · (intro w hSw; (try dsimp only at hSw); go_simp; try with_reducible rfl)
                          try simp only [Act.put, List.setIfInBounds_toArray, List.set_cons_zero, List.set_cons_succ, List.getElem_toArray, List.getElem_cons_succ, List.getElem_cons_zero]
                          refine wpAnyH_take (i := 1) (v := ?_) rfl (by kernel_rfl) (by kernel_rfl) (by kernel_rfl) (fun _ _ _ h => h) (Or.inl ⟨by rfl, ?_⟩) (by assumption) ?_
                          rotate_left
                          · (intro w hSw; (try dsimp only at hSw); go_simp; try with_reducible rfl)
                          try simp only [Act.put, List.setIfInBounds_toArray, List.set_cons_zero, List.set_cons_succ, List.getElem_toArray, List.getElem_cons_succ, List.getElem_cons_zero]
                          refine wpAnyH_take (i := 2) (v := ?_) rfl (by kernel_rfl) (by kernel_rfl) (by kernel_rfl) (fun _ _ _ h => h) (Or.inl ⟨by rfl, ?_⟩) (by assumption) ?_
                          rotate_left
                          · (intro w hSw; (try dsimp only at hSw); go_simp; try with_reducible rfl)
                          try simp only [Act.put, List.setIfInBounds_toArray, List.set_cons_zero, List.set_cons_succ, List.getElem_toArray, List.getElem_cons_succ, List.getElem_cons_zero]
                          refine wpAnyH_take (i := 3) (v := ?_) rfl (by kernel_rfl) (by kernel_rfl) (by kernel_rfl) (fun _ _ _ h => h) (Or.inl ⟨by rfl, ?_⟩) (by assumption) ?_
                          rotate_left
                          · (intro w hSw; (try dsimp only at hSw); go_simp; try with_reducible rfl)
                          try simp only [Act.put, List.setIfInBounds_toArray, List.set_cons_zero, List.set_cons_succ, List.getElem_toArray, List.getElem_cons_succ, List.getElem_cons_zero]
                          refine wpAnyH_take (i := 4) (v := ?_) rfl (by kernel_rfl) (by kernel_rfl) (by kernel_rfl) (fun _ _ _ h => h) (Or.inl ⟨by rfl, ?_⟩) (by assumption) ?_
                          rotate_left
                          · (intro w hSw; (try dsimp only at hSw); go_simp; try with_reducible rfl)
                          try simp only [Act.put, List.setIfInBounds_toArray, List.set_cons_zero, List.set_cons_succ, List.getElem_toArray, List.getElem_cons_succ, List.getElem_cons_zero]
                          refine wpAnyH_take (i := 5) (v := ?_) rfl (by kernel_rfl) (by kernel_rfl) (by kernel_rfl) (fun _ _ _ h => h) (Or.inl ⟨by rfl, ?_⟩) (by assumption) ?_
                          rotate_left
                          · (intro w hSw; (try dsimp only at hSw); go_simp; try with_reducible rfl)
                          try simp only [Act.put, List.setIfInBounds_toArray, List.set_cons_zero, List.set_cons_succ, List.getElem_toArray, List.getElem_cons_succ, List.getElem_cons_zero]
                          refine wpAnyH_take (i := 6) (v := ?_) rfl (by kernel_rfl) (by kernel_rfl) (by kernel_rfl) (fun _ _ _ h => h) (Or.inl ⟨by rfl, ?_⟩) (by assumption) ?_
                          rotate_left
                          · (intro w hSw; (try dsimp only at hSw); go_simp; try with_reducible rfl)
                          try simp only [Act.put, List.setIfInBounds_toArray, List.set_cons_zero, List.set_cons_succ, List.getElem_toArray, List.getElem_cons_succ, List.getElem_cons_zero]
                          refine wpAnyH_take (i := 7) (v := ?_) rfl (by kernel_rfl) (by kernel_rfl) (by kernel_rfl) (fun _ _ _ h => h) (Or.inl ⟨by rfl, ?_⟩) (by assumption) ?_
                          rotate_left
                          · (intro w hSw; (try dsimp only at hSw); go_simp; try with_reducible rfl)
                          try simp only [Act.put, List.setIfInBounds_toArray, List.set_cons_zero, List.set_cons_succ, List.getElem_toArray, List.getElem_cons_succ, List.getElem_cons_zero]
                          refine wpAnyH_take (i := 8) (v := ?_) rfl (by kernel_rfl) (by kernel_rfl) (by kernel_rfl) (fun _ _ _ h => h) (Or.inl ⟨by rfl, ?_⟩) (by assumption) ?_
                          rotate_left
                          · (intro w hSw; (try dsimp only at hSw); go_simp; try with_reducible rfl)
                          try simp only [Act.put, List.setIfInBounds_toArray, List.set_cons_zero, List.set_cons_succ, List.getElem_toArray, List.getElem_cons_succ, List.getElem_cons_zero]
                          refine wpAnyH_take (i := 9) (v := ?_) rfl (by kernel_rfl) (by kernel_rfl) (by kernel_rfl) (fun _ _ _ h => h) (Or.inl ⟨by rfl, ?_⟩) (by assumption) ?_
                          rotate_left
                          · (intro w hSw; (try dsimp only at hSw); go_simp; try with_reducible rfl)
                          try simp only [Act.put, List.setIfInBounds_toArray, List.set_cons_zero, List.set_cons_succ, List.getElem_toArray, List.getElem_cons_succ, List.getElem_cons_zero]
                          refine wpAnyH_take (i := 10) (v := ?_) rfl (by kernel_rfl) (by kernel_rfl) (by kernel_rfl) (fun _ _ _ h => h) (Or.inl ⟨by rfl, ?_⟩) (by assumption) ?_
                          rotate_left
                          · (intro w hSw; (try dsimp only at hSw); go_simp; try with_reducible rfl)
                          try simp only [Act.put, List.setIfInBounds_toArray, List.set_cons_zero, List.set_cons_succ, List.getElem_toArray, List.getElem_cons_succ, List.getElem_cons_zero]
                          refine wpAnyH_take (i := 11) (v := ?_) rfl (by kernel_rfl) (by kernel_rfl) (by kernel_rfl) (fun _ _ _ h => h) (Or.inl ⟨by rfl, ?_⟩) (by assumption) ?_
                          rotate_left
                          · (intro w hSw; (try dsimp only at hSw); go_simp; try with_reducible rfl)
                          try simp only [Act.put, List.setIfInBounds_toArray, List.set_cons_zero, List.set_cons_succ, List.getElem_toArray, List.getElem_cons_succ, List.getElem_cons_zero]
                          refine wpAnyH_take (i := 12) (v := ?_) rfl (by kernel_rfl) (by kernel_rfl) (by kernel_rfl) (fun _ _ _ h => h) (Or.inl ⟨by rfl, ?_⟩) (by assumption) ?_
                          rotate_left
                          · (intro w hSw; (try dsimp only at hSw); go_simp; try with_reducible rfl)
                          try simp only [Act.put, List.setIfInBounds_toArray, List.set_cons_zero, List.set_cons_succ, List.getElem_toArray, List.getElem_cons_succ, List.getElem_cons_zero]
                          refine wpAnyH_take (i := 13) (v := ?_) rfl (by kernel_rfl) (by kernel_rfl) (by kernel_rfl) (fun _ _ _ h => h) (Or.inl ⟨by rfl, ?_⟩) (by assumption) ?_
                          rotate_left
                          · (intro w hSw; (try dsimp only at hSw); go_simp; try with_reducible rfl)
                          try simp only [Act.put, List.setIfInBounds_toArray, List.set_cons_zero, List.set_cons_succ, List.getElem_toArray, List.getElem_cons_succ, List.getElem_cons_zero]
                          refine wpAnyH_take (i := 14) (v := ?_) rfl (by kernel_rfl) (by kernel_rfl) (by kernel_rfl) (fun _ _ _ h => h) (Or.inl ⟨by rfl, ?_⟩) (by assumption) ?_
                          rotate_left
                          · (intro w hSw; (try dsimp only at hSw); go_simp; try with_reducible rfl)
                          try simp only [Act.put, List.setIfInBounds_toArray, List.set_cons_zero, List.set_cons_succ, List.getElem_toArray, List.getElem_cons_succ, List.getElem_cons_zero]
                          refine wpAnyH_take (i := 15) (v := ?_) rfl (by kernel_rfl) (by kernel_rfl) (by kernel_rfl) (fun _ _ _ h => h) (Or.inl ⟨by rfl, ?_⟩) (by assumption) ?_
                          rotate_left
                          · (intro w hSw; (try dsimp only at hSw); go_simp; try with_reducible rfl)
                          try simp only [Act.put, List.setIfInBounds_toArray, List.set_cons_zero, List.set_cons_succ, List.getElem_toArray, List.getElem_cons_succ, List.getElem_cons_zero]
                          refine wpAnyH_take (i := 16) (v := ?_) rfl (by kernel_rfl) (by kernel_rfl) (by kernel_rfl) (fun _ _ _ h => h) (Or.inl ⟨by rfl, ?_⟩) (by assumption) ?_
                          rotate_left
                          · (intro w hSw; (try dsimp only at hSw); go_simp; try with_reducible rfl)
                          try simp only [Act.put, List.setIfInBounds_toArray, List.set_cons_zero, List.set_cons_succ, List.getElem_toArray, List.getElem_cons_succ, List.getElem_cons_zero]
                          refine wpAnyH_take (i := 17) (v := ?_) rfl (by kernel_rfl) (by kernel_rfl) (by kernel_rfl) (fun _ _ _ h => h) (Or.inl ⟨by rfl, ?_⟩) (by assumption) ?_
                          rotate_left
                          · (intro w hSw; (try dsimp only at hSw); go_simp; try with_reducible rfl)
                          try simp only [Act.put, List.setIfInBounds_toArray, List.set_cons_zero, List.set_cons_succ, List.getElem_toArray, List.getElem_cons_succ, List.getElem_cons_zero]
                          refine wpAnyH_take (i := 18) (v := ?_) rfl (by kernel_rfl) (by kernel_rfl) (by kernel_rfl) (fun _ _ _ h => h) (Or.inl ⟨by rfl, ?_⟩) (by assumption) ?_
                          rotate_left
                          · (intro w hSw; (try dsimp only at hSw); go_simp; try with_reducible rfl)
                          try simp only [Act.put, List.setIfInBounds_toArray, List.set_cons_zero, List.set_cons_succ, List.getElem_toArray, List.getElem_cons_succ, List.getElem_cons_zero]
                          refine wpAnyH_done (by kernel_rfl) ?_ _
                          go_wp2
                          go_roundw
                          case rel => exact ⟨k, i + 1, rfl, by go_num, by omega, by omega, Lib.hid (by rw [HHE.out, HKI.out]), Lib.hid (HB11.out.trans ⟨rfl, rfl, rfl, Nat.le_refl _, fun _ _ => rfl⟩)⟩
                          case measure => simp [intOf]; omega
                    · have b5 : decide ((i : Int) < (n2 : Int)) = false := decide_eq_false (by omega)
                      obtain rfl : i = n2 := by omega
                      have hk3 : k = n3 := by have h := HKI.out; rw [List.take_of_length_le (by rw [HN2.out]; exact Nat.le_refl _), HN3.out] at h; exact h.symm
                      subst hk3
                      have b6 : ((n5 : Int) == (i : Int) - k) = true := by have := HN5'.out; simp; omega
                      have hsb : wrap64 ((i : Int) - k) = (i : Int) - k := by unfold wrap64; omega
                      go_wp2
                      go_ret
                      exact ⟨rfl, HBW.out.trans ((HB9.out.trans (HB11.out.mono HB9.out.size)).mono (Nat.le_of_lt HLT.out))⟩
end Go.Proofs.Yteajlffchdbkjaa.Re
namespace Go.Proofs.Yteajlffchdbkjaa.Re
open Go.RowKit Go.Maps Go.Shelf Go.Proofs.Yteajlffchdbkjaa.Rv Go.Proofs.YteajlffchdbkjaaW.PrintWords
set_option linter.unusedVariables false
theorem leaves_row (cs : Array Value) (x : LimV) (Aw : Option Addr) (cw : Nat) (lw : List Int) (who : Int) (w : World) (hr : dLim.K w x (Value.agg cs).cells.toList) (hw : True)
    (h1 : (Kd.int .u8).C w Aw lw.length lw) (c1 : lw.length ≤ cw) (y1 : lw.length * 1 ≤ 140737488351232) (z1 : ∀ n ∈ lw, (Lit.int .u8 n).wf = true) (hn : (Lit.int .u8 who).wf = true) :
    Calls Try.prog 7 #[.agg cs, .slice Aw lw.length cw, .int .u8 who] w fun e w' => e = .returned (.bool true) ∧ Below w.heap.size w w' := by
  obtain rfl := lim_cells_of hr
  exact leaves_calls w x.1 x.2.1 x.2.2.1 x.2.2.2.1 x.2.2.2.2.1 x.2.2.2.2.2 Aw lw.length cw lw who h1 rfl (fun n hn => wf_bd (z1 n hn) (by decide) (by decide)) (wf_bd hn (by decide) (by decide))
end Go.Proofs.Yteajlffchdbkjaa.Re
