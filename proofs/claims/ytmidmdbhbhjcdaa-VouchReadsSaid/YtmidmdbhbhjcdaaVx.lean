/-
  Rows of bytes: an append to a row that is full and not one's own (a constant's); numbers in few bytes, and frames, as their functions give them; the row of bytes that is like another. Conditions: bytes are bytes, numbers of their kinds.
-/
import Derived.Test.YtmidmdbhbhjcdaaSq
import Derived.Test.YtmidmdbhbhjcdaaPureFc
import Derived.Laws.Append
import Derived.Laws.AppendOwn
import Derived.Lib.SlBytesConst
import Derived.OwnWalk
import Derived.Tactics
import Derived.WalkKit
import Derived.KernelRfl
import Derived.RowKit3
import Derived.Deep.LoopGhost
import Derived.Deep.QuietTactic
import Derived.BigQuiet
import Derived.Deep.Cut
import Derived.Deep.CutRange
import Derived.Deep.DeepCutAuto
import Derived.Deep.CutBlock
import Derived.Deep.RegionLaw
import Derived.StillTailTactics
import Derived.Lib.Hide
import Derived.IntWalk
import Derived.Test.YtmidmdbhbhjcdaaWFoot
import Derived.Test.YtmidmdbhbhjcdaaWWords
import Derived.Test.YtmidmdbhbhjcdaaWLast
import Derived.Test.YtmidmdbhbhjcdaaWMore
namespace Go.Proofs.Ytmidmdbhbhjcdaa.By
open Go.RowKit Go.Proofs.Ytmidmdbhbhjcdaa.Sp Go.Proofs.Ytmidmdbhbhjcdaa.H Go.Proofs.Ytmidmdbhbhjcdaa.Uv Go.Proofs.Ytmidmdbhbhjcdaa.Fr Go.Proofs.YtmidmdbhbhjcdaaW.PrintWords Go.Proofs.YtmidmdbhbhjcdaaW.PrintLast Go.Proofs.YtmidmdbhbhjcdaaW.PrintMore
set_option linter.unusedVariables false
set_option linter.unusedSimpArgs false
theorem i64_of {x : Int} (h : -9223372036854775808 ≤ x ∧ x ≤ 9223372036854775807) : IntKind.i64.wrap x = x := IntWalk.i64_in _ (by omega)
theorem u64_of {x : Int} (h : 0 ≤ x ∧ x ≤ 18446744073709551615) : IntKind.u64.wrap x = x := IntWalk.u64_in _ (by omega)
theorem info8 : (Try.prog.info? 5).map (fun i => (i.zero, i.size, i.bytes)) = some (some (.int .u8 0), 1, 1) := by kernel_rfl
theorem cell_of_C {k : IntKind} {w : World} {A : Option Addr} {n : Nat} {xs : List Int} (h : (Kd.int k).C w A n xs) (i : Nat) (h1 : i < xs.length) (hn : n = xs.length) : ∃ ad, A = some ad ∧ w.cell? (ad.add i) = some (.int k xs[i]) := by
  obtain ⟨ad, e, hx⟩ := Kd.at_int h (i : Int) (by omega) (by omega)
  have rx : rd xs (i : Int) = xs[i] := by simp [rd, h1]
  rw [rx, Int.toNat_natCast] at hx
  exact ⟨ad, e, hx⟩
theorem below_drN {B : Nat} {a w : World} (h : Below B a w) (n : Nat) : Below B a (w.drewN n) := h.trans ⟨rfl, rfl, rfl, Nat.le_refl _, fun _ _ => rfl⟩
theorem cell_cellsN {w : World} {g t : Nat} {cs : Array Value} (h : w.heap[g]? = some (.cells cs t (0, 0))) (j : Nat) (hj : j < cs.size) : w.cell? ⟨g, j, none⟩ = some cs[j] := by unfold World.cell?; rw [h]; simp [hj]
theorem frozen_cellsN {w : World} {g t : Nat} {cs : Array Value} (h : w.heap[g]? = some (.cells cs t (0, 0))) (j : Nat) : w.frozen? ⟨g, j, none⟩ = false := by unfold World.frozen?; rw [h]; simp
theorem new_cellsN (w : World) (t : TypeId) (cs : Array Value) : (w.alloc (.cells cs t)).heap[w.heap.size]? = some (.cells cs t (0, 0)) := (MapKept.heap_alloc w (.cells cs t)).1
theorem R_own {d : Kd Int} {e : Nat} {w : World} {base : Nat} {v : Value} {xs : List Int} (h : d.R e w base (fun _ => True) v xs) : d.R e w base (fun k => base ≤ k ∧ k < w.heap.size) v xs := Kd.R_mono (Kd.R_bound h) (fun k hk => ⟨hk.2.1, hk.2.2.1⟩)
/-! ### append to a row that is full -/
theorem cells_C {w : World} {A : Option Addr} {n : Nat} {xs : List Int} (h : (Kd.int .u8).C w A n xs) (hn : 0 < n) : ∃ ad, A = some ad ∧ ∀ j u, (xs.map (Value.int .u8))[j]? = some u → w.cell? (ad.add j) = some u := by
  have hl : xs.length = n := h.1
  obtain ⟨ad, e, _⟩ := cell_of_C h 0 (by omega) hl.symm
  refine ⟨ad, e, fun j u hu => ?_⟩
  rw [List.getElem?_map] at hu
  obtain ⟨x, hx, rfl⟩ := Option.map_eq_some_iff.1 hu
  obtain ⟨hj, rfl⟩ := List.getElem?_eq_some_iff.1 hx
  obtain ⟨ad', e', hc⟩ := cell_of_C h j hj hl.symm
  rw [e] at e'
  injection e' with e'
  rw [e']
  exact hc
theorem run_append_full (w : World) (ty : TypeId) (xs ys : List Int) (ad : Addr) (A : Option Addr) (m c : Nat) (HX : (Kd.int .u8).C w (some ad) xs.length xs) (HY : (Kd.int .u8).C w A m ys) (hx0 : 0 < xs.length) (hm : 0 < m) (hl : xs.length + m ≤ 1000000000) :
    ∃ v1 w1, (Builtin.append_ #[22, 22] ty #[.slice (some ad) xs.length xs.length, .slice A m c]).run Try.prog w = .ok v1 w1 ∧ (Kd.int .u8).R 5 w1 w.heap.size (fun _ => True) v1 (xs ++ ys) ∧ Below w.heap.size w w1 := by
  obtain ⟨i, hi, hz0, hs, hb⟩ := info_parts info8
  obtain ⟨ad0, e0, hox⟩ := cells_C HX hx0
  injection e0 with e0
  subst e0
  obtain ⟨ad2, rfl, hoy⟩ := cells_C HY hm
  have hyl : ys.length = m := HY.1
  have hr := run_append_grow (P := Try.prog) w 22 ty 5 i (.int .u8 0) Try.underlying22 hi hz0 ad xs.length xs.length (xs.map (Value.int .u8)) (by rw [List.length_map, hs, Nat.mul_one]) hox ad2 m c (ys.map (Value.int .u8)) (by rw [List.length_map, hs, Nat.mul_one, hyl]) hoy (by omega) (by omega) (growslice_fits (by omega) (by rw [hb]; omega))
  have hge := grownCap_ge w (xs.length + m) xs.length 5
  have hcm : grownCap w (xs.length + m) xs.length 5 ≤ maxLen := grownCap_le_maxLen w (xs.length + m) xs.length 5 (by unfold maxLen; omega)
  refine ⟨_, _, hr, ?_, ⟨rfl, rfl, rfl, by simp, fun k hk => heap_alloc_old w.drew _ hk⟩⟩
  refine Kd.R_of_own (enc := Value.int .u8) (h1 := fun _ => rfl) ?_ (fun _ _ => trivial)
  have he : encs (Value.int .u8) (xs ++ ys) = xs.map (Value.int .u8) ++ ys.map (Value.int .u8) := by unfold encs; rw [List.map_append]
  rw [he]
  refine ⟨by rw [List.length_append, List.length_map, List.length_map, List.length_append, Nat.mul_one], .inr ⟨w.heap.size, _, _, by rw [List.length_append, hyl], Nat.le_refl _, heap_alloc_new w.drew _, by rw [List.length_append, hyl]; exact hge, hcm, ?_, ?_⟩⟩
  · simp only [Array.size_append, List.size_toArray, size_zeroCells, List.length_map, hyl, Value.cells, Nat.mul_one]
    show xs.length + m + (grownCap w (xs.length + m) xs.length 5 - (xs.length + m)) * 1 = _
    omega
  · have hl2 : (xs ++ ys).length * 1 = (xs.map (Value.int .u8) ++ ys.map (Value.int .u8)).length := by rw [List.length_append, List.length_append, List.length_map, List.length_map, Nat.mul_one]
    rw [hl2]
    simp only [Array.toList_append, List.append_assoc]
    rw [← List.append_assoc]
    exact List.take_left
/-- A row that an append may begin with: one's own, or one that is full. -/
def Apd (w : World) (base : Nat) (v : Value) (xs : List Int) : Prop := (Kd.int .u8).R 5 w base (fun _ => True) v xs ∨ (∃ ad, v = .slice (some ad) xs.length xs.length ∧ (Kd.int .u8).C w (some ad) xs.length xs ∧ 0 < xs.length)
theorem Apd.below {w w1 : World} {base : Nat} {v : Value} {xs : List Int} (h : Apd w base v xs) (hb : Below w.heap.size w w1) : Apd w1 base v xs := by
  rcases h with h | ⟨ad, h1, h2, h3⟩
  · exact .inl (Kd.R_below h hb)
  · exact .inr ⟨ad, h1, Kd.C_below h2 hb, h3⟩
theorem Apd.val {w : World} {base : Nat} {v : Value} {xs : List Int} (h : Apd w base v xs) : ∃ A c, v = .slice A xs.length c ∧ xs.length ≤ c ∧ (Kd.int .u8).C w A xs.length xs := by
  rcases h with h | ⟨ad, h1, h2, h3⟩
  · exact Kd.R_reads h
  · exact ⟨some ad, _, h1, Nat.le_refl _, h2⟩
section
variable {ops : Array Oper} {rest : List Oper} {o : Oper} {a : Act} {Q : Exit → Act → World → Prop}
theorem append_apd {w0 W : World} (base : Nat) (hgd : o.guard = none) (s x : Operand) (ho : o.op = .call { callee := .builtin .append, args := #[s, x], argTypes := #[22, 22] })
    (v : Value) (xs ys : List Int) (A : Option Addr) (m c : Nat) (hs : a.eval s = v) (hx : a.eval x = .slice A m c) (HO : Apd W base v xs) (HY : (Kd.int .u8).C W A m ys) (hm : 0 < m) (HB : Below base w0 W) (hbase : base ≤ W.heap.size) (hl : xs.length + m ≤ 1000000000)
    (h : ∀ v1 w1, (Kd.int .u8).R 5 w1 base (fun _ => True) v1 (xs ++ ys) → Below base w0 w1 → wpList Try.prog ops Q rest (a.put o.dst v1) w1) : wpList Try.prog ops Q (o :: rest) a W := by
  rcases HO with HO | ⟨ad, rfl, HC, h0⟩
  · refine Kd.R_append_row (Value.int .u8) (0 : Int) (w0 := w0) base hgd s x 22 5 (.int .u8 0) 1 ho Try.underlying22 info8 rfl (by omega) v xs ys A m c (fun _ => True) hs hx (fun _ _ => trivial) HO HY HB hbase (by omega) ?_
    intro v1 w1 h1 h2 _ _
    exact h v1 w1 h1 h2
  · obtain ⟨v1, w1, hr, hR, hb⟩ := run_append_full W o.type xs ys ad A m c HC HY h0 hm hl
    refine wpList_plain hgd fun K' hK' => ?_
    unfold Oper.wp execOp
    simp only [ho, resolve, invoke, builtin, Sem.run_bind, Sem.run_pure, Result.andThen_ok, List.map_toArray, List.map_cons, List.map_nil, hs, hx, hr]
    exact hK' _ _ (h v1 w1 (Kd.R_lower hR hbase) (HB.trans (hb.mono hbase)))
end
end Go.Proofs.Ytmidmdbhbhjcdaa.By
