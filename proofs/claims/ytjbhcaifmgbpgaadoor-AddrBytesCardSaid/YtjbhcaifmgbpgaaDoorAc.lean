/-
  addr: what a call finds laid (the table of powers, two errors, a number); the library's contracts in plain words; May, MayPlace and the document's. Conditions: as the theorems state them.
-/
import Derived.Test.YtjbhcaifmgbpgaaDoorAb
import Derived.Test.YtjbhcaifmgbpgaaDoorAsh
import Derived.Test.YtjbhcaifmgbpgaaDoorWMore
import Derived.Test.YtjbhcaifmgbpgaaDoorWLast
import Derived.Test.YtjbhcaifmgbpgaaDoorWEqStruct
import Derived.WalkKit
import Derived.KernelRfl
import Derived.OpenShut
import Derived.BigRegion
import Derived.WideLaws
import Derived.Deep.RegionLaw
import Derived.Deep.Cut
import Derived.Deep.DeepCutAuto
import Derived.RowKit
import Derived.Lib.Hide
import Derived.StillTailTactics
import Derived.Deep.RegionHeld3
import Derived.IntWalk
import Derived.Deep.LoopGhost
import Derived.RangeFuncBox
import Derived.RangeFuncWrites
import Derived.RangeFuncLeaves
import Derived.RangeFuncCalls
namespace Go.Proofs.YtjbhcaifmgbpgaaDoor.Ad
open Go Go.RowKit Go.Shelf Go.Proofs.YtjbhcaifmgbpgaaDoorW.PrintWords Go.Proofs.YtjbhcaifmgbpgaaDoorW.PrintLast Go.Proofs.YtjbhcaifmgbpgaaDoorW.PrintMore
set_option linter.unusedVariables false
set_option linter.unusedSimpArgs false
attribute [local go_sem] Oper.semAt_some
theorem cell_cellsN {w : World} {g t : Nat} {cs : Array Value} (h : w.heap[g]? = some (.cells cs t (0, 0))) (j : Nat) (hj : j < cs.size) : w.cell? ⟨g, j, none⟩ = some cs[j] := by unfold World.cell?; rw [h]; simp [hj]
theorem frozen_cellsN {w : World} {g t : Nat} {cs : Array Value} (h : w.heap[g]? = some (.cells cs t (0, 0))) (j : Nat) : w.frozen? ⟨g, j, none⟩ = false := by unfold World.frozen?; rw [h]; simp
theorem new_cellsN (w : World) (t : TypeId) (cs : Array Value) : (w.alloc (.cells cs t)).heap[w.heap.size]? = some (.cells cs t (0, 0)) := World.alloc_heap_new w _
theorem set_cellsN {w : World} {g t : Nat} {cs cs' : Array Value} (j : Nat) {z : Value} (h : w.heap[g]? = some (.cells cs t (0, 0))) (hc : cs.setIfInBounds j z = cs') : (w.setCell ⟨g, j, none⟩ z).heap[g]? = some (.cells cs' t (0, 0)) := by
  subst hc
  unfold World.setCell
  show (w.heap.modify g _)[g]? = _
  rw [Array.getElem?_modify, if_pos rfl, h]
  rfl
def capT (t : Int) : Int := if 1099511627776 < t then 1099511627776 else t
def onT (now t : Int) : Int := if now < capT t then capT t else now
theorem drew_below (w : World) : Below w.heap.size w w.drew := ⟨rfl, rfl, rfl, Nat.le_refl _, fun _ _ => rfl⟩
/-! ### what is laid -/
theorem var_below {P : Program} {w w' : World} {name : String} {cs : Array Value} (h : w.var? P name = some cs) (hb : Below w.heap.size w w') : w'.var? P name = some cs := by
  unfold World.var? at h ⊢
  cases hg : P.globalNamed name with
  | none => rw [hg] at h; cases h
  | some g =>
    rw [hg] at h
    simp only [Option.bind_some] at h ⊢
    have hlt : g < w.heap.size := by
      rcases Nat.lt_or_ge g w.heap.size with h' | h'
      · exact h'
      · rw [Array.getElem?_eq_none h'] at h; cases h
    rw [hb.block g hlt]
    exact h
structure Env (w : World) : Prop where
  tab : Lib.TabIs Tryd.prog w "internal/strconv.uint64pow10" .u64 Lib.pow10Tab
  syn : ∃ tp p, w.var? Tryd.prog "strconv.ErrSyntax" = some #[.iface tp p]
  rng : ∃ tp p, w.var? Tryd.prog "strconv.ErrRange" = some #[.iface tp p]
  max : ∃ m, w.cell? ⟨1, 0, none⟩ = some (.int .i64 m)
theorem Env.below {w w' : World} (h : Env w) (hb : Below w.heap.size w w') : Env w' := by
  obtain ⟨h1, ⟨t1, p1, h2⟩, ⟨t2, p2, h3⟩, m, h4⟩ := h
  exact ⟨var_below h1 hb, ⟨t1, p1, var_below h2 hb⟩, ⟨t2, p2, var_below h3 hb⟩, m, (hb.cell (World.block_lt_of_cell? _ _ h4)).trans h4⟩
theorem grow_below (w : World) (k : Nat) (os : Array Obj) : Below w.heap.size w (Go.Sort.grow (w.drewN k) os) := by
  refine ⟨rfl, rfl, rfl, ?_, fun i hi => ?_⟩
  · show w.heap.size ≤ (w.heap ++ os).size
    simp
  · show (w.heap ++ os)[i]? = w.heap[i]?
    rw [Array.getElem?_append_left hi]
theorem itoa_calls (w : World) (hE : Env w) (n : Int) (h0 : 0 ≤ n) (h1 : n ≤ 9223372036854775807) : Calls Tryd.prog 26 #[.int .i64 n] w fun e w' => e = .returned (.string (mk (dI n))) ∧ Below w.heap.size w w' := by
  have K : Calls Tryd.prog 26 #[.int .i64 n] w fun e w' => e = .returned (.string ⟨(Lib.itoa n).toArray⟩) ∧ ∃ k os, w' = Go.Sort.grow (w.drewN k) os := Any.strconv_Itoa Tryd.itoaS n (by omega) h1 w hE.tab
  refine K.mono ?_
  rintro e w' ⟨rfl, k, os, rfl⟩
  rw [itoa_dec h0]
  exact ⟨rfl, grow_below w k os⟩
theorem split_calls (w : World) (hE : Env w) (s : ByteArray) (hs : s.size ≤ 1000000) : Calls Tryd.prog 27 #[.string s, .string ⟨#[47]⟩] w fun e w' => e = .returned (.slice (some ⟨w.heap.size, 0, none⟩) (split1 47 s.data.toList).length (split1 47 s.data.toList).length) ∧ w'.heap[w.heap.size]? = some (.cells ((split1 47 s.data.toList).map (fun p => Value.string (mk p))).toArray 9 (0, 0)) ∧ Below w.heap.size w w' := by
  obtain ⟨m, hm⟩ := hE.max
  have K : Calls Tryd.prog 27 #[.string s, .string ⟨#[47]⟩] w fun e w' => e = .returned (.slice (some ⟨w.heap.size, 0, none⟩) (Lib.countB s ⟨#[47]⟩ + 1) (Lib.countB s ⟨#[47]⟩ + 1)) ∧ w' = w.alloc (.cells ((Lib.splitB ⟨#[47]⟩ 0 (Lib.countB s ⟨#[47]⟩) s).map Value.string).toArray 9) := Any.strings_Split Tryd.splitS (by kernel_rfl) s ⟨#[47]⟩ m w (by omega) hm (by decide)
  refine K.mono ?_
  rintro e w' ⟨rfl, rfl⟩
  obtain ⟨h1, h2⟩ := splitB_one s 47
  rw [h1, h2]
  refine ⟨rfl, ?_, (Below.refl _ _).alloc (Nat.le_refl _) _⟩
  rw [new_cellsN]
  simp [List.map_map]
theorem index_calls (w : World) (s : ByteArray) (c : UInt8) : Calls Tryd.prog 44 #[.string s, .string ⟨#[c]⟩] w fun e w' => e = .returned (.int .i64 (Lib.indexByte s.data.toList c)) ∧ w = w' := by
  have K : Calls Tryd.prog 44 #[.string s, .string ⟨#[c]⟩] w fun e w' => e = .returned (.int .i64 (Lib.indexByte s.data.toList c)) ∧ w' = w := Any.strings_Index_one Tryd.indexS s c w
  exact K.mono (fun e w' h => ⟨h.1, h.2.symm⟩)
/-- Atoi: a value, or an error that is not nil. -/
theorem atoi_calls (w : World) (hE : Env w) (s : ByteArray) (hs : s.size ≤ 1000000) : Calls Tryd.prog 38 #[.string s] w fun e w' => Below w.heap.size w w' ∧
    ((∃ v, Lib.atoiAll s.data.toList = .ok v ∧ e = .returned (.tuple #[.int .i64 v, .nilIface])) ∨ ((∀ v, Lib.atoiAll s.data.toList ≠ .ok v) ∧ ∃ x p, e = .returned (.tuple #[.int .i64 x, .iface 90 p]))) := by
  cases ha : Lib.atoiAll s.data.toList
  · rename_i v
    have K : Calls Tryd.prog 38 #[.string s] w fun e w' => e = .returned (.tuple #[.int .i64 v, .nilIface]) ∧ (w' = w ∨ ∃ t, w' = Lib.bytesWorld w 5 t) := Any.strconv_Atoi_ok Tryd.atoiS s (by omega) v ha w
    refine K.mono ?_
    rintro e w' ⟨rfl, hw⟩
    refine ⟨?_, .inl ⟨v, rfl, rfl⟩⟩
    rcases hw with rfl | ⟨t, rfl⟩
    · exact Below.refl _ _
    · exact bytes_below (Below.refl _ _) (Nat.le_refl _) _ _
  · skip
    obtain ⟨tp, p, hv⟩ := hE.syn
    have K : Calls Tryd.prog 38 #[.string s] w fun e w' => ∃ N, e = .returned (.tuple #[.int .i64 0, .iface 90 (.pointer (some ⟨N, 0, none⟩))]) ∧ w.heap.size ≤ N ∧ w'.heap[N]? = some (.cells #[.string ⟨#[65, 116, 111, 105]⟩, .string s, .iface tp p] 102 (0, 0)) ∧ Below w.heap.size w w' := Any.strconv_Atoi_syntax_var Tryd.atoiS s (by omega) ha tp p w hv
    refine K.mono ?_
    rintro e w' ⟨N, rfl, _, _, hb⟩
    exact ⟨hb, .inr ⟨(fun v h => by cases h), _, _, rfl⟩⟩
  · skip
    obtain ⟨tp, p, hv⟩ := hE.rng
    have K : Calls Tryd.prog 38 #[.string s] w fun e w' => ∃ N, e = .returned (.tuple #[.int .i64 (Lib.atoiSat s.data.toList), .iface 90 (.pointer (some ⟨N, 0, none⟩))]) ∧ w.heap.size ≤ N ∧ w'.heap[N]? = some (.cells #[.string ⟨#[65, 116, 111, 105]⟩, .string s, .iface tp p] 102 (0, 0)) ∧ Below w.heap.size w w' := Any.strconv_Atoi_range_var Tryd.atoiS s (by omega) ha tp p w hv
    refine K.mono ?_
    rintro e w' ⟨N, rfl, _, _, hb⟩
    exact ⟨hb, .inr ⟨(fun v h => by cases h), _, _, rfl⟩⟩
theorem cmp_int_calls (w : World) (x y : Int) : Calls Tryd.prog 34 #[.int .i64 x, .int .i64 y] w fun e w' => e = .returned (.int .i64 (Lib.compareInt x y)) ∧ w = w' := by
  have K : Calls Tryd.prog 34 #[.int .i64 x, .int .i64 y] w fun e w' => e = .returned (.int .i64 (Lib.compareInt x y)) ∧ w' = w := Any.cmp_Compare_int Tryd.compareS x y w
  exact K.mono (fun e w' h => ⟨h.1, h.2.symm⟩)
/-! ### May -/
set_option maxRecDepth 100000 in
set_option maxHeartbeats 2000000 in
theorem may_calls (w : World) (h p : Int) : Calls Tryd.prog 17 #[.agg #[.int .u32 h, .int .i64 p]] w fun e w' => e = .returned (.bool (mayA h p)) ∧ Below w.heap.size w w' := by
  go_enter Tryd.func17, Tryd.ntmps17
  go_wp2
  all_goals go_ret
  all_goals refine ⟨?_, (Below.refl _ _).alloc (Nat.le_refl _) _⟩
  all_goals (simp_all [mayA]; try omega)
set_option maxRecDepth 100000 in
set_option maxHeartbeats 2000000 in
theorem refmay_calls (w : World) (h p : Int) (h0 : 0 ≤ h) : Calls Tryd.prog 23 #[.agg #[.int .u32 h, .int .i64 p]] w fun e w' => e = .returned (.bool (mayA h p)) ∧ Below w.heap.size w w' := by
  go_enter Tryd.func23, Tryd.ntmps23
  go_wp2
  all_goals go_ret
  all_goals refine ⟨?_, (Below.refl _ _).alloc (Nat.le_refl _) _⟩
  all_goals (have hi := mayA_iff h p; cases hq : mayA h p <;> simp_all <;> omega)
def placeV (q : PlaceP) : Value := .agg #[.int .u32 q.1, .int .i64 q.2.1, .int .i64 q.2.2.1, .bool q.2.2.2]
set_option maxRecDepth 100000 in
set_option maxHeartbeats 2000000 in
theorem mayp_calls (w : World) (h p id : Int) (via : Bool) : Calls Tryd.prog 12 #[.agg #[.int .u32 h, .int .i64 p, .int .i64 id, .bool via]] w fun e w' => e = .returned (.bool (mayP (h, p, id, via))) ∧ Below w.heap.size w w' := by
  obtain ⟨W, hW⟩ : ∃ W, w.alloc (.cells #[.int .u32 h, .int .i64 p, .int .i64 id, .bool via] 26) = W := ⟨_, rfl⟩
  have hb : Below w.heap.size w W := by rw [← hW]; exact (Below.refl _ _).alloc (Nat.le_refl _) _
  have hc : W.heap[w.heap.size]? = some (.cells #[.int .u32 h, .int .i64 p, .int .i64 id, .bool via] 26 (0, 0)) := by rw [← hW]; exact new_cellsN _ _ _
  have HB := Lib.hid hb
  have HC := Lib.hid hc
  have d0 := cell_cellsN hc 0 (by simp)
  have d1 := cell_cellsN hc 1 (by simp)
  have d2 := cell_cellsN hc 2 (by simp)
  have d3 := cell_cellsN hc 3 (by simp)
  simp only [List.getElem_toArray, List.getElem_cons_zero, List.getElem_cons_succ] at d0 d1 d2 d3
  clear hb hc
  obtain ⟨m, hm⟩ : ∃ m, mayA h p = m := ⟨_, rfl⟩
  have K := may_calls W h p
  rw [hm] at K
  have K := Lib.hid K
  have HM := Lib.hid hm
  clear hm
  cases m with
  | false =>
    go_enter Tryd.func12, Tryd.ntmps12
    go_wp2_with (go_at_call 17; refine K.out.mono ?_; rintro e w1 ⟨rfl, hb1⟩; have HB1 := Lib.hid hb1; clear hb1)
    go_ret
    exact ⟨by unfold mayP; rw [HM.out]; rfl, HB.out.trans (HB1.out.mono HB.out.size)⟩
  | true =>
    go_enter Tryd.func12, Tryd.ntmps12
    go_wp2_with (go_at_call 17; refine K.out.mono ?_; rintro e w1 ⟨rfl, hb1⟩; have HB1 := Lib.hid hb1; have hc1 := (hb1.block w.heap.size (Array.getElem?_eq_some_iff.1 HC.out).1).trans HC.out; have f1 := cell_cellsN hc1 1 (by simp); have f2 := cell_cellsN hc1 2 (by simp); have f3 := cell_cellsN hc1 3 (by simp); simp only [List.getElem_toArray, List.getElem_cons_zero, List.getElem_cons_succ] at f1 f2 f3; clear hb1 hc1)
    all_goals go_ret
    all_goals refine ⟨?_, HB.out.trans (HB1.out.mono HB.out.size)⟩
    all_goals (unfold mayP; simp only [HM.out, Ending.returned.injEq, Value.bool.injEq]; cases via <;> simp_all <;> (try omega))
end Go.Proofs.YtjbhcaifmgbpgaaDoor.Ad
