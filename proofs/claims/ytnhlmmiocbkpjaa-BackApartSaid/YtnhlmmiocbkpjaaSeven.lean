/-
  BackApart: the walk of the law: whatever the plan: it returns true, and nothing that lay has turned.
-/
import Derived.RangeFuncNested
import Derived.RangeFuncBound
import Derived.RangeFuncCalls
import Derived.RangeFuncLeaves
import Derived.Shelf.Abstract
import Derived.Shelf.RegionOpen
import Derived.WalkKit
import Derived.OwnWalkIn
import Derived.TacticsInMore
import Derived.LoopNIn
import Derived.LoopIn
import Derived.Deep.QuietTactic
import Derived.BigQuiet
import Derived.Lib.Hide
import Derived.Outline
import Derived.Test.YtnhlmmiocbkpjaaSix
namespace Go.Proofs.Ytnhlmmiocbkpjaa.Tm
open Go.RowKit Go.Shelf Go.Proofs.Ytnhlmmiocbkpjaa.PBackTimes Go.Proofs.YtnhlmmiocbkpjaaW.PrintWords Go.Proofs.YtnhlmmiocbkpjaaW.PrintLast Go.Proofs.YtnhlmmiocbkpjaaW.PrintMore

attribute [local go_sem] Oper.semAt_some

theorem cellL {W : World} {a : Addr} {v : Value} (o : Obj) (h : W.cell? a = some v) : (W.alloc o).cell? a = some v := cell_kept h (World.grownBy_alloc W o none) (fun r e => by cases e)
theorem keepsOthers_below {W W' : World} (h : Below W.heap.size W W') : KeepsOthers W W' := KeepsOthers.of_grownBy (row := none) ⟨h.os, h.tape, h.output, h.size, fun k hk _ => h.block k hk⟩ (fun _ _ e => by cases e)
theorem Boxed.below {W W' : World} {B : Nat} {t : TypeId} {v : Value} (h : Boxed W B t v) (hb : Below W.heap.size W W') : Boxed W' B t v := (hb.block B h.lt).trans h
def Cells7 (N0 N1 : Nat) (f m s : Int) (w : World) (j : Nat) (W : World) : Prop :=
  W.heap[N0]? = some (.cells #[.int .i64 f, .int .i64 m] 30 (0, 0)) ∧ Boxed W (N0 + 1) 4 (.bool false) ∧ Boxed W N1 3 (.int .i64 (s + sm m f j)) ∧ Boxed W (N1 + 1) 3 (.int .i64 j) ∧ N1 + 5 ≤ W.heap.size ∧ Below N0 w W
theorem cells7_own (B N0 N1 : Nat) (f m s : Int) (w : World) (g : List NT → Nat) (h0 : N0 ≤ B) (hw : N0 ≤ w.heap.size) : OwnFrom B (fun xs => Cells7 N0 N1 f m s w (g xs)) := by
  rintro s' X Y row ⟨b0, b1, b3, b4, h5, hb⟩ hg hr
  have hr' : ∀ r, row = some r → ∃ o : Obj, X.heap[r]? = some o ∧ o.isCells = false := fun r e => (hr r e).2
  refine ⟨?_, boxed_own _ _ (fun _ : Unit => _) () X Y row b1 hg hr', boxed_own _ _ (fun _ : Unit => _) () X Y row b3 hg hr', boxed_own _ _ (fun _ : Unit => _) () X Y row b4 hg hr', Nat.le_trans h5 hg.size, hb.grown hg (Nat.le_trans hw hb.size) (fun k e => by have := (hr k e).1; omega)⟩
  refine (hg.block N0 (Array.getElem?_eq_some_iff.1 b0).1 (fun e => ?_)).trans b0
  obtain ⟨o, ho, hc⟩ := hr' N0 e.symm
  rw [b0] at ho; cases ho; cases hc
def I7 (N0 N1 : Nat) (f m s : Int) (w : World) (pre : List NT) (W : World) : Prop :=
  (pre.map Subtype.val = tl f m s pre.length ∧ pre.length < 100) ∧ Cells7 N0 N1 f m s w pre.length W
def X7 (N0 : Nat) (f m s : Int) (w : World) (jmp : Code) (pre : List NT) (W : World) : Prop :=
  jmp = .ret ∧ ((¬ (Ok f m ∧ pre.map Subtype.val = tl f m s pre.length) ∧ Boxed W (N0 + 1) 4 (.bool false)) ∨ Boxed W (N0 + 1) 4 (.bool true)) ∧ Below N0 w W

theorem cells7_step {N0 N1 : Nat} {f m s : Int} {w : World} {j : Nat} {W w2 : World} (h : Cells7 N0 N1 f m s w j W) (hw : Below W.heap.size W w2) (h0 : N0 ≤ w.heap.size) (h1 : N0 + 1 < N1) (a : Int) (ha : a = s + sm m f (j + 1)) :
    Cells7 N0 N1 f m s w (j + 1) ((w2.setCell ⟨N1, 0, none⟩ (.int .i64 a)).setCell ⟨N1 + 1, 0, none⟩ (.int .i64 ((j : Int) + 1))) := by
  obtain ⟨b0, b1, b3, b4, h5, hb⟩ := h
  have d1 := Boxed.below b1 hw
  have d3 := Boxed.below b3 hw
  have d4 := Boxed.below b4 hw
  refine ⟨?_, (d1.other (by omega) _).other (by omega) _, (d3.set _).other (by omega) _ |> fun z => ha ▸ z, (d4.other (by omega) _).set _, ?_, ?_⟩
  · rw [Below.heap_setCell _ _ _ _ (by show N0 ≠ N1 + 1; omega), Below.heap_setCell _ _ _ _ (by show N0 ≠ N1; omega)]
    exact (hw.block _ (Array.getElem?_eq_some_iff.1 b0).1).trans b0
  · have := hw.size; simp [World.setCell]; omega
  · exact ((hb.trans (hw.mono (by have := hb.size; omega))).setCell (p := ⟨N1, 0, none⟩) (by show N0 ≤ N1; omega) _).setCell (p := ⟨N1 + 1, 0, none⟩) (by show N0 ≤ N1 + 1; omega) _
theorem tl_snoc_nt {f m s : Int} {pre : List NT} {x : NT} {j : Nat} (hp : pre.map Subtype.val = tl f m s j) : ((pre ++ [x]).map Subtype.val = tl f m s (pre ++ [x]).length) ↔ x.1 = el f m s j := by
  have hl : pre.length = j := by have := congrArg List.length hp; rwa [List.length_map, tl_length] at this
  rw [List.map_append, hp, List.length_append, List.length_singleton, hl, tl_succ, List.map_singleton]
  constructor
  · intro h; have := (List.append_inj' h rfl).2; simpa using this
  · intro h; rw [h]

set_option maxRecDepth 100000 in
set_option maxHeartbeats 2000000 in
theorem law7_out (f m s : Int) (w : World) (hout : 1099511627776 < m ∨ s < 0 ∨ 1099511627776 < s) :
    Calls Try.prog 7 #[.agg #[.int .i64 f, .int .i64 m], .int .i64 s] w fun e w' => e = .returned (.bool true) ∧ Below w.heap.size w w' := by
  obtain ⟨ka, hka⟩ := awake_yes.rounds
  have Haw := Lib.hid hka
  clear hka
  have fin : ∀ w1 : World, Below (w.heap.size + 1 + 1) ((w.alloc (.cells #[.int .i64 f, .int .i64 m] 30)).alloc (.cells #[.bool false] 4)) w1 → Below w.heap.size w (w1.setCell ⟨w.heap.size + 1, 0, none⟩ (.bool true)) :=
    fun w1 hb1 => ((((Below.refl _ w).alloc (Nat.le_refl _) _).alloc (by simp) _).trans (hb1.mono (by omega))).setCell (p := ⟨w.heap.size + 1, 0, none⟩) (by simp) _
  have Fin := Lib.hid fin
  clear fin
  by_cases h1 : 1099511627776 < m
  · go_enter Try.func7, Try.ntmps7
    go_wp2_with (go_at_call 8; refine (embrasurelaw07_awake.calls _ _ _ Haw.out).mono ?_; rintro e w1 ⟨rfl, hb1⟩; obtain ⟨hc1, hf1⟩ := bcell hb1; have hz1 := hb1.size; simp only [World.size_alloc] at hz1)
    have hc5 := World.cell?_setCell_same' w1 ⟨w.heap.size + 1, 0, none⟩ (.bool true) (by rw [hc1 _ _ (by simp)]; simp)
    refine bodyPost_ret (v := .bool true) (by simp [results, Try.results7, go_sem, hc5]) rfl ⟨rfl, Fin.out _ (by simpa using hb1)⟩
  · by_cases h2 : s < 0
    · go_enter Try.func7, Try.ntmps7
      go_wp2_with (go_at_call 8; refine (embrasurelaw07_awake.calls _ _ _ Haw.out).mono ?_; rintro e w1 ⟨rfl, hb1⟩; obtain ⟨hc1, hf1⟩ := bcell hb1; have hz1 := hb1.size; simp only [World.size_alloc] at hz1)
      have hc5 := World.cell?_setCell_same' w1 ⟨w.heap.size + 1, 0, none⟩ (.bool true) (by rw [hc1 _ _ (by simp)]; simp)
      refine bodyPost_ret (v := .bool true) (by simp [results, Try.results7, go_sem, hc5]) rfl ⟨rfl, Fin.out _ (by simpa using hb1)⟩
    · have h3 : 1099511627776 < s := by omega
      go_enter Try.func7, Try.ntmps7
      go_wp2_with (go_at_call 8; refine (embrasurelaw07_awake.calls _ _ _ Haw.out).mono ?_; rintro e w1 ⟨rfl, hb1⟩; obtain ⟨hc1, hf1⟩ := bcell hb1; have hz1 := hb1.size; simp only [World.size_alloc] at hz1)
      have hc5 := World.cell?_setCell_same' w1 ⟨w.heap.size + 1, 0, none⟩ (.bool true) (by rw [hc1 _ _ (by simp)]; simp)
      refine bodyPost_ret (v := .bool true) (by simp [results, Try.results7, go_sem, hc5]) rfl ⟨rfl, Fin.out _ (by simpa using hb1)⟩

set_option maxRecDepth 100000 in
set_option maxHeartbeats 4000000 in
theorem law7_in (f m s : Int) (w : World) (hm : m ≤ 1099511627776) (hs0 : 0 ≤ s) (hs1 : s ≤ 1099511627776) :
    Calls Try.prog 7 #[.agg #[.int .i64 f, .int .i64 m], .int .i64 s] w fun e w' => e = .returned (.bool true) ∧ Below w.heap.size w w' := by
  obtain ⟨ka, hka⟩ := awake_yes.rounds
  have Haw := Lib.hid hka
  clear hka
  refine (callsIn_wide (n := 8)).1 ?_
  refine callsIn_of_wp_marks Try.func7 rfl trivial ?_ rfl
  simp only [Try.ntmps7, List.size_toArray, List.length_cons, List.length_nil, Nat.reduceAdd, Nat.reduceSub, Array.replicate_succ, Array.replicate_zero, List.push_toArray, List.append_toArray, List.nil_append, List.cons_append]
  gi_wp2_with (first | (refine ⟨trivial, ?_⟩; gi_at_call 8; refine (callsIn_wide.2 (embrasurelaw07_awake.calls _ _ _ Haw.out)).mono ?_; rintro e w1 ⟨rfl, hb1⟩; obtain ⟨hc1, hf1⟩ := bcell hb1; have hz1 := hb1.size; simp only [World.size_alloc] at hz1; have g0 : ∀ o1 o2 : Obj, ((w1.alloc o1).alloc o2).cell? ⟨w.heap.size, 0, none⟩ = some (.int .i64 f) := (fun o1 o2 => cellL _ (cellL _ (by rw [hc1 _ _ (by simp only [World.size_alloc]; omega)]; simp))); have g1 : ∀ o1 o2 : Obj, ((w1.alloc o1).alloc o2).cell? ⟨w.heap.size, 1, none⟩ = some (.int .i64 m) := (fun o1 o2 => cellL _ (cellL _ (by rw [hc1 _ _ (by simp only [World.size_alloc]; omega)]; simp)))) | (refine ⟨trivial, ?_⟩; gi_at_call 14; refine (callsIn_wide.2 (maker f m s _)).mono ?_; rintro e w3 ⟨rfl, rfl⟩))
  obtain ⟨W0, hW0⟩ : ∃ W0, (((((w1.alloc (.cells #[.int .i64 s] 3)).alloc (.cells #[.int .i64 0] 3)).alloc (.cells #[.int .i64 f] 3)).alloc (.cells #[.int .i64 m] 3)).alloc (.cells #[.int .i64 s] 3)) = W0 := ⟨_, rfl⟩
  rw [hW0]
  have hs0' : W0.heap.size = w1.heap.size + 5 := by rw [← hW0]; simp
  have A1 : w1.heap[w.heap.size]? = some (.cells #[.int .i64 f, .int .i64 m] 30 (0, 0)) := (hb1.block _ (by simp only [World.size_alloc]; omega)).trans ((Below.heap_alloc _ _ _ (by simp)).trans (World.alloc_heap_new w _))
  have R1 : Boxed w1 (w.heap.size + 1) 4 (.bool false) := (hb1.block _ (by simp)).trans (by have := Boxed.new (w.alloc (.cells #[.int .i64 f, .int .i64 m] 30)) 4 (.bool false); rwa [World.size_alloc] at this)
  have hb10 : Below w1.heap.size w1 W0 := by
    rw [← hW0]
    exact (((((Below.refl _ w1).alloc (Nat.le_refl _) _).alloc (by simp) _).alloc (by simp; omega) _).alloc (by simp; omega) _).alloc (by simp; omega) _
  have A0 : W0.heap[w.heap.size]? = some (.cells #[.int .i64 f, .int .i64 m] 30 (0, 0)) := (hb10.block _ (by omega)).trans A1
  have B1 : Boxed W0 (w.heap.size + 1) 4 (.bool false) := Boxed.below R1 hb10
  have B3 : Boxed W0 w1.heap.size 3 (.int .i64 s) := by
    rw [← hW0]
    exact ((((Boxed.new w1 3 (.int .i64 s)).alloc _).alloc _).alloc _).alloc _
  have B4 : Boxed W0 (w1.heap.size + 1) 3 (.int .i64 0) := by
    rw [← hW0]
    have := Boxed.new (w1.alloc (.cells #[.int .i64 s] 3)) 3 (.int .i64 0)
    rw [World.size_alloc] at this
    exact ((this.alloc _).alloc _).alloc _
  obtain ⟨V1, hV1⟩ : ∃ V1, (w1.alloc (.cells #[.int .i64 s] 3)).alloc (.cells #[.int .i64 0] 3) = V1 := ⟨_, rfl⟩
  have hv1 : V1.heap.size = w1.heap.size + 2 := by rw [← hV1]; simp
  have q1 : Boxed W0 (w1.heap.size + 2) 3 (.int .i64 f) := by
    rw [← hW0, hV1, ← hv1]
    exact ((Boxed.new V1 3 (.int .i64 f)).alloc _).alloc _
  have q2 : Boxed W0 (w1.heap.size + 3) 3 (.int .i64 m) := by
    rw [← hW0, hV1]
    have := Boxed.new (V1.alloc (.cells #[.int .i64 f] 3)) 3 (.int .i64 m)
    rw [World.size_alloc, hv1] at this
    exact this.alloc _
  have q3 : Boxed W0 (w1.heap.size + 4) 3 (.int .i64 s) := by
    rw [← hW0, hV1]
    have := Boxed.new ((V1.alloc (.cells #[.int .i64 f] 3)).alloc (.cells #[.int .i64 m] 3)) 3 (.int .i64 s)
    rw [World.size_alloc, World.size_alloc, hv1] at this
    exact this
  have hbw : Below w.heap.size w W0 := (((Below.refl _ w).alloc (Nat.le_refl _) _).alloc (by simp) _).trans ((hb1.mono (by simp; omega)).trans (hb10.mono (by omega)))
  clear hW0 hV1 hv1 V1 hc1 hf1
  refine wpIn_rangeFunc_ownF rfl (by omega) (gf := 17) (lb := #[.pointer (some ⟨w1.heap.size + 2, 0, none⟩), .pointer (some ⟨w1.heap.size + 3, 0, none⟩), .pointer (some ⟨w1.heap.size + 4, 0, none⟩)]) rfl trivial (enters_of Try.func17 (by kernel_rfl) rfl)
    (times_stops_nt 7 (by omega) (w1.heap.size + 2) f m s W0 (by omega) q1.cell q2.cell q3.cell)
    KeepIn.trans (fun W l o o' hl h _ _ => KeepIn.put W l o o' (by omega) h) (Below.refl _ _) (fun _ => rfl)
    (I7 w.heap.size w1.heap.size f m s w) (X7 w.heap.size f m s w)
    ?hI ?hIx ?h0 ?a1 ?assign ?body ?done ?stop
  case assign =>
    intro l x W K hK
    gi_wp2
    exact hK
  case hI =>
    intro s' X Y row hs hg hr
    exact ⟨hs.1, cells7_own W0.heap.size w.heap.size w1.heap.size f m s w List.length (by omega) (Nat.le_refl _) s' X Y row hs.2 hg hr⟩
  case hIx =>
    rintro cc s' X Y row ⟨e1, e2, hb⟩ hg hr
    have hr' : ∀ r, row = some r → ∃ o : Obj, X.heap[r]? = some o ∧ o.isCells = false := fun r e => (hr r e).2
    refine ⟨e1, ?_, hb.grown hg hb.size (fun k e => by have := (hr k e).1; omega)⟩
    rcases e2 with ⟨e2, e3⟩ | e2
    · exact .inl ⟨e2, boxed_own _ _ (fun _ : Unit => _) () X Y row e3 hg hr'⟩
    · exact .inr (boxed_own _ _ (fun _ : Unit => _) () X Y row e2 hg hr')
  case h0 => exact ⟨⟨rfl, by simp⟩, A0, B1, by simpa [sm] using B3, B4, by omega, hbw⟩
  case body =>
    rintro l pre ⟨⟨x1, x2⟩, hx0, hx1, hx2, hx3⟩ W ⟨⟨hp, hpl⟩, b0, b1, b3, b4, h5, hbl⟩ _
    have Ql : Hid (pre.length < 2000000000000) := ‹_›
    clear ‹pre.length < 2000000000000›
    have Hp := Lib.hid hp
    clear hp
    obtain ⟨j, hj⟩ : ∃ j, pre.length = j := ⟨_, rfl⟩
    rw [hj] at hpl b3 b4 Hp
    have Hj := Lib.hid hj
    clear hj
    simp only at hx0 hx1 hx2 hx3
    have c0 : W.cell? ⟨w.heap.size, 0, none⟩ = some (.int .i64 f) := by simp [World.cell?, b0]
    have c0' : W.cell? ⟨w.heap.size, 1, none⟩ = some (.int .i64 m) := by simp [World.cell?, b0]
    by_cases ho : Ok f m
    · obtain ⟨kw, hkw⟩ := (wait_yes (n := x1) ho hx0 (by omega)).rounds
      have Hkw := Lib.hid hkw
      have hb2 := it_bd m f ho.1 ho.2.1 x1.toNat
      have hw1 : 1 ≤ it m f x1.toNat := by have := ho.1; omega
      have hw2 : it m f x1.toNat ≤ 1099511627776 := by omega
      have Hs := Lib.hid (sm_small ho j (by omega))
      have hsj0 := Hs.out.1
      have hsj1 := Hs.out.2
      clear hkw hb2
      have Ho := Lib.hid ho
      clear ho
      have g9 : decide (1099511627776 < x2) = false := decide_eq_false (by omega)
      by_cases h2 : x2 = s + sm m f j + it m f x1.toNat
      · have h2b : (x2 != s + sm m f j + it m f x1.toNat) = false := by simpa using h2
        by_cases h1 : x1 = j
        · have h1b : (x1 != (j : Int)) = false := by simpa using h1
          have Hel := Lib.hid (show (x1, x2) = el f m s j by unfold el atT; rw [h2, h1, sm]; simp; omega)
          have Hlast := Lib.hid (show x2 = s + sm m f (j + 1) by rw [h2, h1, sm]; simp; omega)
          by_cases h3 : j + 1 = 100
          · have h3b : ((j : Int) + 1 == 100) = true := by rw [beq_iff_eq]; omega
            clear h1 h2
            gi_wp2_with (refine ⟨trivial, ?_⟩; gi_at_call 9; refine (CallsIn.inRound l (callsIn_wide.2 (back_Wait.calls kw f m x1 _ _ _ Hkw.out))).mono ?_; rintro e w2 ⟨rfl, hw⟩; have d0 := Boxed.below b1 hw; have d3 := Boxed.below b3 hw; have d4 := Boxed.below b4 hw; have e0 := d0.cell; have e0f := d0.frozen; have e3 := d3.cell; have e3f := d3.frozen; have e4 := d4.cell; have e4f := d4.frozen)
            have cs := cells7_step ⟨b0, b1, b3, b4, h5, hbl⟩ hw (Nat.le_refl _) (by omega) x2 Hlast.out
            exact ⟨(((keepsOthers_below hw).trans (KeepsOthers.setCell _ _ _)).trans (KeepsOthers.setCell _ _ _)).trans (KeepsOthers.setCell _ _ _), rfl, .inr (cs.2.1.set _), cs.2.2.2.2.2.setCell (p := ⟨w.heap.size + 1, 0, none⟩) (by simp) _⟩
          · have h3b : ((j : Int) + 1 == 100) = false := by rw [beq_eq_false_iff_ne]; omega
            clear h1 h2
            gi_wp2_with (refine ⟨trivial, ?_⟩; gi_at_call 9; refine (CallsIn.inRound l (callsIn_wide.2 (back_Wait.calls kw f m x1 _ _ _ Hkw.out))).mono ?_; rintro e w2 ⟨rfl, hw⟩; have d0 := Boxed.below b1 hw; have d3 := Boxed.below b3 hw; have d4 := Boxed.below b4 hw; have e0 := d0.cell; have e0f := d0.frozen; have e3 := d3.cell; have e3f := d3.frozen; have e4 := d4.cell; have e4f := d4.frozen)
            have cs := cells7_step ⟨b0, b1, b3, b4, h5, hbl⟩ hw (Nat.le_refl _) (by omega) x2 Hlast.out
            refine ⟨((keepsOthers_below hw).trans (KeepsOthers.setCell _ _ _)).trans (KeepsOthers.setCell _ _ _), ((KeepIn.below hw (by omega)).trans (KeepIn.setCell (.inl (by show w1.heap.size < _; omega)) _)).trans (KeepIn.setCell (.inl (by show w1.heap.size + 1 < _; omega)) _), ⟨(tl_snoc_nt Hp.out).2 Hel.out, by rw [List.length_append, Hj.out]; simp; omega⟩, ?_⟩
            rw [List.length_append, Hj.out]
            exact cs
        · have h1b : (x1 != (j : Int)) = true := by simpa using h1
          clear h2
          gi_wp2_with (refine ⟨trivial, ?_⟩; gi_at_call 9; refine (CallsIn.inRound l (callsIn_wide.2 (back_Wait.calls kw f m x1 _ _ _ Hkw.out))).mono ?_; rintro e w2 ⟨rfl, hw⟩; have d0 := Boxed.below b1 hw; have d3 := Boxed.below b3 hw; have d4 := Boxed.below b4 hw; have e0 := d0.cell; have e0f := d0.frozen; have e3 := d3.cell; have e3f := d3.frozen; have e4 := d4.cell; have e4f := d4.frozen)
          exact ⟨(keepsOthers_below hw).trans (KeepsOthers.setCell _ _ _), rfl, .inl ⟨fun hg => h1 (congrArg Prod.fst ((tl_snoc_nt Hp.out).1 hg.2)), d0.set _⟩, (hbl.trans (hw.mono (by have := hbl.size; omega))).setCell (p := ⟨w.heap.size + 1, 0, none⟩) (by simp) _⟩
      · have h2b : (x2 != s + sm m f j + it m f x1.toNat) = true := by simpa using h2
        gi_wp2_with (refine ⟨trivial, ?_⟩; gi_at_call 9; refine (CallsIn.inRound l (callsIn_wide.2 (back_Wait.calls kw f m x1 _ _ _ Hkw.out))).mono ?_; rintro e w2 ⟨rfl, hw⟩; have d0 := Boxed.below b1 hw; have d3 := Boxed.below b3 hw; have d4 := Boxed.below b4 hw; have e0 := d0.cell; have e0f := d0.frozen; have e3 := d3.cell; have e3f := d3.frozen; have e4 := d4.cell; have e4f := d4.frozen)
        refine ⟨(keepsOthers_below hw).trans (KeepsOthers.setCell _ _ _), rfl, .inl ⟨fun hg => h2 ?_, d0.set _⟩, (hbl.trans (hw.mono (by have := hbl.size; omega))).setCell (p := ⟨w.heap.size + 1, 0, none⟩) (by simp) _⟩
        have hE := (tl_snoc_nt Hp.out).1 hg.2
        have e1 : x1 = (j : Int) := congrArg Prod.fst hE
        have e2 : x2 = atT f m s j := congrArg Prod.snd hE
        rw [e2, e1, atT, sm]
        simp
        omega
    · obtain ⟨kw, hkw⟩ := (wait_no (f := f) (m := m) (n := x1) (.inl ho)).rounds
      have Hkw := Lib.hid hkw
      have Ho := Lib.hid ho
      clear hkw ho
      gi_wp2_with (refine ⟨trivial, ?_⟩; gi_at_call 9; refine (CallsIn.inRound l (callsIn_wide.2 (back_Wait.calls kw f m x1 _ _ _ Hkw.out))).mono ?_; rintro e w2 ⟨rfl, hw⟩; have d0 := Boxed.below b1 hw; have d3 := Boxed.below b3 hw; have d4 := Boxed.below b4 hw; have e0 := d0.cell; have e0f := d0.frozen; have e3 := d3.cell; have e3f := d3.frozen; have e4 := d4.cell; have e4f := d4.frozen)
      exact ⟨(keepsOthers_below hw).trans (KeepsOthers.setCell _ _ _), rfl, .inl ⟨fun hg => Ho.out hg.1, d0.set _⟩, (hbl.trans (hw.mono (by have := hbl.size; omega))).setCell (p := ⟨w.heap.size + 1, 0, none⟩) (by simp) _⟩
  case done =>
    rintro D xs W hD hS ⟨⟨hp, hpl⟩, b0, b1, b3, b4, h5, hbl⟩ hK
    have c0 : W.cell? ⟨w.heap.size, 0, none⟩ = some (.int .i64 f) := by simp [World.cell?, b0]
    have c0' : W.cell? ⟨w.heap.size, 1, none⟩ = some (.int .i64 m) := by simp [World.cell?, b0]
    have c4 := b4.cell
    obtain ⟨j, hj⟩ : ∃ j, xs.length = j := ⟨_, rfl⟩
    rw [hj] at c4 b3 b4 hpl hp
    have ends : ∀ w2 : World, Below W.heap.size W w2 → ∀ b : Bool, b = true → ∃ w3, w3 = (w2.setCell ⟨w.heap.size + 1, 0, none⟩ (.bool b)) ∧ w3.heap[D]? = some (.deferred (some [])) ∧ (w3.putObj D (.deferred none)).cell? ⟨w.heap.size + 1, 0, none⟩ = some (.bool true) ∧ Below w.heap.size w (w3.putObj D (.deferred none)) := by
      rintro w2 hw b rfl
      have hK2 := (keepsOthers_below hw).same D _ hK rfl
      have hK' := (KeepsOthers.setCell w2 ⟨w.heap.size + 1, 0, none⟩ (.bool true)).same D _ hK2 rfl
      refine ⟨_, rfl, hK', cell_kept (World.cell?_setCell_same' w2 ⟨w.heap.size + 1, 0, none⟩ (.bool true) (by rw [(Boxed.below b1 hw).cell]; rfl)) (grownBy_putObj' _ D (.deferred none)) (fun r e => by cases e; exact ⟨_, hK', rfl⟩), ?_⟩
      exact ((hbl.trans (hw.mono (by have := hbl.size; omega))).setCell (p := ⟨w.heap.size + 1, 0, none⟩) (by simp) _).trans (belowK_b (w := w) (Nat.le_refl _) _ D _ _ (by omega) hK' rfl rfl)
    have Ends := Lib.hid ends
    clear ends
    rcases hS with ⟨hT, k, hk, hbig⟩ | ⟨hT, hk⟩
    · have hkj : k = j := by have := congrArg List.length hk; rw [List.length_map, tl_length] at this; omega
      rw [hkj] at hbig
      obtain ⟨kw, hkw⟩ := (wait_yes (n := (j : Int)) hT.1 (by omega) (by omega)).rounds
      rw [Int.toNat_natCast] at hkw
      have Hkw := Lib.hid hkw
      have Hs := Lib.hid (sm_small hT.1 j (by omega))
      have hsj0 := Hs.out.1
      have hsj1 := Hs.out.2
      have hi1 := it_bd m f hT.1.1 hT.1.2.1 j
      have hi2 : 1 ≤ it m f j := by have := hT.1.1; omega
      have hi3 : it m f j ≤ 1099511627776 := by omega
      have g1 : decide (1099511627776 < s + sm m f j + it m f j) = true := by
        refine decide_eq_true ?_
        unfold atT at hbig; rw [sm] at hbig; omega
      clear hkw hT hk hkj hbig hi1 hp hj
      gi_wp2_with (refine ⟨trivial, ?_⟩; gi_at_call 9; refine (callsIn_wide.2 (back_Wait.calls kw f m j _ _ _ Hkw.out)).mono ?_; rintro e w2 ⟨rfl, hw⟩; have d0 := Boxed.below b1 hw; have d3 := Boxed.below b3 hw; have d4 := Boxed.below b4 hw; have e0 := d0.cell; have e0f := d0.frozen; have e3 := d3.cell; have e4 := d4.cell)
      obtain ⟨_, rfl, hK3, hc5, hb3⟩ := Ends.out w2 hw true rfl
      refine ⟨by simp, .inl ⟨_, _, rfl, run_takeDeferred hK3, ?_⟩⟩
      refine ⟨.bool true, ?_, rfl, hb3⟩
      simp [results, Try.f7, go_sem, hc5]
    · have hj0 : j = 0 := by rw [← hj, ← List.length_map (f := Subtype.val), hk]; rfl
      subst hj0
      have hno : ¬ Ok f m := fun ho => hT ⟨ho, hs0, hs1⟩
      obtain ⟨kw, hkw⟩ := (wait_no (f := f) (m := m) (n := 0) (.inl hno)).rounds
      have Hkw := Lib.hid hkw
      clear hkw hno hT hk hp hj
      gi_wp2_with (refine ⟨trivial, ?_⟩; gi_at_call 9; refine (callsIn_wide.2 (back_Wait.calls kw f m 0 _ _ _ Hkw.out)).mono ?_; rintro e w2 ⟨rfl, hw⟩; have d0 := Boxed.below b1 hw; have d3 := Boxed.below b3 hw; have d4 := Boxed.below b4 hw; have e0 := d0.cell; have e0f := d0.frozen; have e3 := d3.cell; have e4 := d4.cell)
      obtain ⟨_, rfl, hK3, hc5, hb3⟩ := Ends.out w2 hw true rfl
      refine ⟨by simp, .inl ⟨_, _, rfl, run_takeDeferred hK3, ?_⟩⟩
      refine ⟨.bool true, ?_, rfl, hb3⟩
      simp [results, Try.f7, go_sem, hc5]
  case stop =>
    rintro D jmp pre W hD ⟨hT, k, hk, hle⟩ ⟨rfl, hX, hbl⟩ hK
    rcases hX with ⟨hbad, _⟩ | b1
    · exact absurd ⟨hT.1, by rw [hk]; congr 1; have := congrArg List.length hk; rw [List.length_map, tl_length] at this; exact this.symm⟩ hbad
    · gi_wp2
      refine ⟨by simp, .inl ⟨_, _, rfl, run_takeDeferred hK, ?_⟩⟩
      have hc5 := cell_kept b1.cell (grownBy_putObj' _ D (.deferred none)) (fun r e => by cases e; exact ⟨_, hK, rfl⟩)
      refine ⟨.bool true, ?_, rfl, hbl.trans (belowK_b (w := w) (Nat.le_refl _) _ D _ _ (by omega) hK rfl rfl)⟩
      simp [results, Try.f7, go_sem, hc5]

theorem law7_row (f m s : Int) (w : World) (_ : (Lit.int .i64 f).wf = true) (_ : (Lit.int .i64 m).wf = true) (_ : (Lit.int .i64 s).wf = true) :
    Calls Try.prog 7 #[.agg #[.int .i64 f, .int .i64 m], .int .i64 s] w fun e w' => e = .returned (.bool true) ∧ Below w.heap.size w w' := by
  by_cases h : m ≤ 1099511627776 ∧ 0 ≤ s ∧ s ≤ 1099511627776
  · exact law7_in f m s w h.1 h.2.1 h.2.2
  · refine law7_out f m s w ?_
    by_cases h1 : m ≤ 1099511627776
    · by_cases h2 : 0 ≤ s
      · have : ¬ s ≤ 1099511627776 := fun x => h ⟨h1, h2, x⟩
        omega
      · omega
    · omega

end Go.Proofs.Ytnhlmmiocbkpjaa.Tm
