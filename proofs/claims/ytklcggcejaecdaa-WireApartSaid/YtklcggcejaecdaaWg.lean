/-
  wire.FromBytes: the addresses so far, as the loop leaves them. Condition: bytes are bytes.
-/
import Derived.Test.YtklcggcejaecdaaWf
namespace Go.Proofs.Ytklcggcejaecdaa.Wi
open Go.RowKit Go.Shelf Go.Proofs.Ytklcggcejaecdaa.H Go.Proofs.Ytklcggcejaecdaa.Uv Go.Proofs.Ytklcggcejaecdaa.Fr Go.Proofs.YtklcggcejaecdaaW.PrintWords Go.Proofs.YtklcggcejaecdaaW.PrintLast Go.Proofs.YtklcggcejaecdaaW.PrintMore
set_option linter.unusedVariables false
set_option linter.unusedSimpArgs false
attribute [local go_sem] Oper.semAt_some
/-- Behind the reader's addresses so far: the message in the making, its addresses. -/
def RA (x : AddrP) (cs : List Value) : Prop := cs = [.int .u32 x.1, .int .i64 x.2]
def MidI (w : World) (n1 g gm : Nat) (kd : Int) (v1 : Value) (N : List Int) (pre : List AddrP) (V : World) : Prop :=
  (∃ v2 cs, V.heap[gm]? = some (.cells #[.int .i64 kd, v1, v2, .slice none 0 0] 26 (0, 0)) ∧ V.ownsRow n1 45 2 v2 pre.length cs ∧ Reps RA 2 pre cs) ∧ (Kd.int .u64).R 39 V w.heap.size (fun _ => True) v1 N ∧ V.heap[w.heap.size]? = some (.cells #[.int .i64 0, .slice none 0 0, .slice none 0 0, .slice none 0 0] 26 (0, 0)) ∧ (∃ ds, V.heap[g]? = some (.cells ds 58 (0, 0))) ∧ Below w.heap.size w V ∧ n1 ≤ V.heap.size
theorem cells_off {V V' : World} {row : Option Nat} (hg : V.grownBy V' row) (hr : ∀ r, row = some r → ∃ o : Obj, V.heap[r]? = some o ∧ o.isCells = false) {k : Nat} {cs : Array Value} {t : TypeId} {fr : Nat × Nat} (hk : V.heap[k]? = some (.cells cs t fr)) : V'.heap[k]? = some (.cells cs t fr) :=
  (hg.block k (Array.getElem?_eq_some_iff.1 hk).1 (fun e => by
    obtain ⟨o, h1, h2⟩ := hr k e.symm
    rw [hk] at h1
    injection h1 with h1
    rw [← h1] at h2
    cases h2)).trans hk
theorem MidI.own (w : World) (n1 g gm : Nat) (kd : Int) (v1 : Value) (N : List Int) (h0 : w.heap.size ≤ n1) : OwnFrom n1 (MidI w n1 g gm kd v1 N) := by
  rintro pre A B row ⟨⟨v2, cs, h1, h2, h3⟩, h4, h5, ⟨ds, h6⟩, h7, h8⟩ hg hr
  have hr' : ∀ r, row = some r → ∃ o : Obj, A.heap[r]? = some o ∧ o.isCells = false := fun r e => (hr r e).2
  refine ⟨⟨v2, cs, cells_off hg hr' h1, own_other h2 hg ?_, h3⟩, ?_, cells_off hg hr' h5, ⟨ds, cells_off hg hr' h6⟩, h7.grown hg (Nat.le_trans h0 h8) (fun k e => Nat.le_trans h0 (hr k e).1), Nat.le_trans h8 hg.size⟩
  · rcases hv : v2.ownBlock with _ | k
    · exact .inl rfl
    · refine .inr (fun e => ?_)
      obtain ⟨cells, hc⟩ := own_typed h2 k hv
      obtain ⟨o, k1, k2⟩ := hr' k e.symm
      rw [hc] at k1
      injection k1 with k1
      rw [← k1] at k2
      cases k2
  · exact Kd.R_mono (Kd.R_step (Kd.R_bound h4) (fun k hk hlt => hg.block k hlt (fun e => by
      obtain ⟨_, _, _, q, hq, cells, hc⟩ := hk
      obtain ⟨o, k1, k2⟩ := hr' k e.symm
      rw [hc] at k1
      injection k1 with k1
      rw [← k1] at k2
      cases k2))) (fun _ _ => trivial)
theorem MidI.set_g {w V : World} {n1 g gm : Nat} {kd : Int} {v1 : Value} {N : List Int} {pre : List AddrP} (h : MidI w n1 g gm kd v1 N pre V) (hg : w.heap.size < g ∧ g < gm) (i : Nat) (u : Value) : MidI w n1 g gm kd v1 N pre (V.setCell ⟨g, i, none⟩ u) := by
  obtain ⟨⟨v2, cs, h1, h2, h3⟩, h4, h5, ⟨ds, h6⟩, h7, h8⟩ := h
  refine ⟨⟨v2, cs, (Below.heap_setCell _ _ _ _ (show gm ≠ g by omega)).trans h1, own_setCell h2 (own_ne h2 h6 (by decide)) u, h3⟩, Kd.R_set h4 h6 (by simp [Kd.int, Kd.scalar]) i u, (Below.heap_setCell _ _ _ _ (show w.heap.size ≠ g by omega)).trans h5, ⟨_, blk_set h6 i u⟩, h7.setCell (p := ⟨g, i, none⟩) (by show w.heap.size ≤ g; omega) u, by simpa [World.setCell] using h8⟩
theorem MidI.zero {w V : World} {g gm : Nat} {kd : Int} {v1 : Value} {N x : List Int} {b : Bool} (h : MidV w g gm kd v1 N x b V) : MidI w V.heap.size g gm kd v1 N [] V := by
  obtain ⟨h0, ⟨A, c, hg, _⟩, h2, h3, h4, h5⟩ := h
  exact ⟨⟨_, [], h2, World.ownsRow_nil _ _ _ _, Reps.none _ _⟩, h3, h4, ⟨_, hg⟩, h5, Nat.le_refl _⟩
theorem infoA : (Try.prog.info? 45).map (fun i => (i.zero, i.size, i.bytes)) = some (some (.agg #[.int .u32 0, .int .i64 0]), 2, 16) := by kernel_rfl
/-- One address more. -/
theorem MidI.app {w V U w1 : World} {n1 g gm : Nat} {kd : Int} {v1 v2 v' : Value} {N : List Int} {pre : List AddrP} {x : AddrP} {cs : List Value} (hg : w.heap.size < g ∧ g < gm) (hn : w.heap.size ≤ n1)
    (h1 : V.heap[gm]? = some (.cells #[.int .i64 kd, v1, v2, .slice none 0 0] 26 (0, 0))) (h2 : V.ownsRow n1 45 2 v2 pre.length cs) (h3 : Reps RA 2 pre cs) (h4 : (Kd.int .u64).R 39 V w.heap.size (fun _ => True) v1 N) (h5 : V.heap[w.heap.size]? = some (.cells #[.int .i64 0, .slice none 0 0, .slice none 0 0, .slice none 0 0] 26 (0, 0))) (h6 : ∃ ds, V.heap[g]? = some (.cells ds 58 (0, 0))) (h7 : Below w.heap.size w V) (h8 : n1 ≤ V.heap.size)
    (hU : Below V.heap.size V U) (ho : w1.ownsRow n1 45 2 v' (pre.length + 1) (cs ++ [.int .u32 x.1, .int .i64 x.2])) (hgr : U.grownBy w1 v2.ownBlock) :
    w1.heap[gm]? = some (.cells #[.int .i64 kd, v1, v2, .slice none 0 0] 26 (0, 0)) ∧ MidI w n1 g gm kd v1 N (pre ++ [x]) (w1.setCell ⟨gm, 2, none⟩ v') ∧ V.grownBy w1 v2.ownBlock := by
  obtain ⟨ds, h6⟩ := h6
  have hVg : V.grownBy w1 v2.ownBlock := ⟨hgr.os.trans hU.os, hgr.tape.trans hU.tape, hgr.output.trans hU.output, Nat.le_trans hU.size hgr.size, fun i hi hne => (hgr.block i (Nat.lt_of_lt_of_le hi hU.size) hne).trans (hU.block i hi)⟩
  have k1 : w1.heap[gm]? = _ := (hVg.block gm (Array.getElem?_eq_some_iff.1 h1).1 (own_ne h2 h1 (by decide))).trans h1
  have k5 : w1.heap[w.heap.size]? = _ := (hVg.block w.heap.size (Array.getElem?_eq_some_iff.1 h5).1 (own_ne h2 h5 (by decide))).trans h5
  have k6 : w1.heap[g]? = _ := (hVg.block g (Array.getElem?_eq_some_iff.1 h6).1 (own_ne h2 h6 (by decide))).trans h6
  have k4 : (Kd.int .u64).R 39 w1 w.heap.size (fun _ => True) v1 N := Kd.R_mono (Kd.R_step (Kd.R_bound h4) (fun k hk hlt => hVg.block k hlt (fun e => by
    obtain ⟨_, _, _, q, hq, cells, hc⟩ := hk
    obtain ⟨cells', hc'⟩ := own_typed h2 k e.symm
    rw [hc] at hc'
    injection hc' with hc'
    injection hc' with _ hc'
    simp [Kd.int, Kd.scalar] at hq
    rw [hq] at hc'
    cases hc'))) (fun _ _ => trivial)
  have k7 : Below w.heap.size w w1 := h7.grown hVg h7.size (fun k e => Nat.le_trans hn (own_base h2 k e))
  refine ⟨k1, ⟨⟨v', _, blk_put k1 2 v' rfl, ?_, h3.snoc (p := x) rfl rfl⟩, Kd.R_set k4 k1 (by simp [Kd.int, Kd.scalar]) 2 v', (Below.heap_setCell _ _ _ _ (show w.heap.size ≠ gm by omega)).trans k5, ⟨ds, (Below.heap_setCell _ _ _ _ (show g ≠ gm by omega)).trans k6⟩, k7.setCell (p := ⟨gm, 2, none⟩) (by show w.heap.size ≤ gm; omega) v', by have := hVg.size; simp [World.setCell]; omega⟩, hVg⟩
  rw [List.length_append, List.length_singleton]
  exact own_setCell ho (own_ne ho k1 (by decide)) v'
theorem own_dA {w : World} {base : Nat} {v : Value} {xs : List AddrP} {cs : List Value} (h : w.ownsRow base 45 2 v xs.length cs) (hr : Reps RA 2 xs cs) : dA.R 45 w base (fun _ => True) v xs :=
  ⟨fun _ _ => trivial, cs, h, hr.imp_ (fun p c hc => ⟨[_], [_], hc, rfl, rfl⟩)⟩
end Go.Proofs.Ytklcggcejaecdaa.Wi
