/-
  A loop whose rounds range over functions: the marks that they leave among the deferred calls; rows of reservations. Conditions: as the theorems state them.
-/
import Derived.Test.YtglpjoijkinlbaaRy
import Derived.Test.YtglpjoijkinlbaaKa
namespace Go.Proofs.Ytglpjoijkinlbaa.Rv
open Go.RowKit Go.Maps Go.Shelf Go.Sort Go.Proofs.YtglpjoijkinlbaaW.PrintWords Go.Proofs.YtglpjoijkinlbaaW.PrintLast Go.Proofs.YtglpjoijkinlbaaW.PrintMore
set_option linter.unusedVariables false
set_option linter.unusedSimpArgs false
attribute [local go_sem] Oper.semAt_some
def markL (Ds : List Nat) : List Deferred := Ds.map (fun D => { target := .collected D, args := #[] })
theorem markL_cons (D : Nat) (Ds : List Nat) : markL (D :: Ds) = { target := .collected D, args := #[] } :: markL Ds := rfl
def SameB (Ds : List Nat) (w w' : World) : Prop := w'.os = w.os ∧ w'.tape = w.tape ∧ w'.output = w.output ∧ w'.heap.size = w.heap.size ∧ ∀ b, b ∉ Ds → w'.heap[b]? = w.heap[b]?
theorem SameB.below {Ds : List Nat} {w w' : World} {B : Nat} (h : SameB Ds w w') (hB : ∀ D ∈ Ds, B ≤ D) : Below B w w' :=
  ⟨h.1, h.2.1, h.2.2.1, by have := h.2.2.2.1; omega, fun b hb => h.2.2.2.2 b (fun hm => by have := hB b hm; omega)⟩
theorem leaves_marks {F : Fence} {n : Nat} {P : Program} {fn : Func} {tmps : Array Value} {R : Ending → World → Prop} : ∀ (Ds : List Nat) (w : World), Ds.Nodup → (∀ D ∈ Ds, w.heap[D]? = some (.deferred (some []))) →
    (∀ w', SameB Ds w w' → LeavesInM F n P fn tmps R [] .returning w') → LeavesInM F n P fn tmps R (markL Ds) .returning w
  | [], w, _, _, h => h w ⟨rfl, rfl, rfl, rfl, fun _ _ => rfl⟩
  | D :: Ds, w, hn, hd, h => by
    obtain ⟨hn1, hn2⟩ := List.nodup_cons.1 hn
    have hD := hd D (by simp)
    rw [markL_cons]
    refine ⟨by simp, .inl ⟨D, w.putObj D (.deferred none), rfl, run_takeDeferred hD, ?_⟩⟩
    refine leaves_marks Ds _ hn2 (fun E hE => ?_) (fun w' hw' => h w' ?_)
    · exact (World.putObj_heap_other (by intro e; subst e; exact hn1 hE)).trans (hd E (by simp [hE]))
    · obtain ⟨h1, h2, h3, h4, h5⟩ := hw'
      refine ⟨h1, h2, h3, h4.trans (by simp [World.putObj]), fun b hb => ?_⟩
      rw [h5 b (fun hm => hb (by simp [hm]))]
      exact World.putObj_heap_other (fun e => hb (by simp [e]))
theorem wp_loop_k {P : Program} {Q : Exit → Act → World → Prop} {a : Act} {w : World} {c : Code} (I : Act → World → Prop) (μ : Act → World → Nat) (h0 : I a w)
    (round : ∀ a w, I a w → ∀ K : Act → World → Prop, (∀ a' w', I a' w' ∧ μ a' w' < μ a w → K a' w') → c.wp P (Exit.then K Q) a w) : (Code.loop c).wp P Q a w :=
  wp_loop I μ h0 (fun a w h => round a w h _ (fun _ _ h => h))
/-- Nothing has turned but o's. -/
def OffT (o : Nat → Prop) (w w' : World) : Prop := w.heap.size ≤ w'.heap.size ∧ ∀ b, b < w.heap.size → ¬ o b → w'.heap[b]? = w.heap[b]?
theorem OffT.refl (o : Nat → Prop) (w : World) : OffT o w w := ⟨Nat.le_refl _, fun _ _ _ => rfl⟩
theorem OffT.trans {o : Nat → Prop} {a b c : World} (h : OffT o a b) (k : OffT o b c) : OffT o a c := ⟨Nat.le_trans h.1 k.1, fun i hi hn => (k.2 i (Nat.lt_of_lt_of_le hi h.1) hn).trans (h.2 i hi hn)⟩
theorem OffT.below {o : Nat → Prop} {w w' : World} (h : Below w.heap.size w w') : OffT o w w' := ⟨h.size, fun b hb _ => h.block b hb⟩
theorem OffT.touch {o : Nat → Prop} {g b : Nat} {w w' : World} (h : Touch g b w w') (hg : o g) (hb : o b) : OffT o w w' := ⟨h.2.2.2.1, fun i hi hn => h.2.2.2.2 i hi (fun e => hn (e ▸ hg)) (fun e => hn (e ▸ hb))⟩
theorem OffT.set {o : Nat → Prop} (w : World) {p : Addr} (hp : o p.block) (v : Value) : OffT o w (w.setCell p v) := ⟨by simp [World.setCell], fun b _ hn => Below.heap_setCell _ _ _ _ (fun e => hn (e ▸ hp))⟩
theorem OffT.keepS {o : Nat → Prop} {S : Nat → Prop} {w0 w w' : World} (h : OffT o w0 w) (k : KeepS S w w') (hS : ∀ b, b < w0.heap.size → ¬ o b → S b) : OffT o w0 w' := ⟨Nat.le_trans h.1 k.1, fun b hb hn => (k.2 b (hS b hb hn)).trans (h.2 b hb hn)⟩
theorem OffT.boxed {o : Nat → Prop} {w w' : World} {B t : Nat} {v : Value} (h : OffT o w w') (hb : Boxed w B t v) (hn : ¬ o B) : Boxed w' B t v := (h.2 B hb.lt hn).trans hb
def MarksOk (o : Nat → Prop) (lo : Nat) (Ds : List Nat) (w : World) : Prop := Ds.Nodup ∧ ∀ D ∈ Ds, lo ≤ D ∧ ¬ o D ∧ w.heap[D]? = some (.deferred (some []))
theorem MarksOk.lt {o : Nat → Prop} {lo : Nat} {Ds : List Nat} {w : World} (h : MarksOk o lo Ds w) : ∀ D ∈ Ds, D < w.heap.size := fun D hD => (Array.getElem?_eq_some_iff.1 (h.2 D hD).2.2).1
theorem MarksOk.step {o : Nat → Prop} {lo : Nat} {Ds : List Nat} {w w' : World} (h : MarksOk o lo Ds w) (k : OffT o w w') : MarksOk o lo Ds w' := ⟨h.1, fun D hD => ⟨(h.2 D hD).1, (h.2 D hD).2.1, (k.2 D (h.lt D hD) (h.2 D hD).2.1).trans (h.2 D hD).2.2⟩⟩
theorem MarksOk.cons {o : Nat → Prop} {lo : Nat} {Ds : List Nat} {w : World} {D : Nat} (h : MarksOk o lo Ds w) (h1 : lo ≤ D) (h2 : ¬ o D) (h3 : w.heap[D]? = some (.deferred (some []))) (hn : D ∉ Ds) : MarksOk o lo (D :: Ds) w :=
  ⟨List.nodup_cons.2 ⟨hn, h.1⟩, fun E hE => by rcases List.mem_cons.1 hE with rfl | hE; exact ⟨h1, h2, h3⟩; exact h.2 E hE⟩
/-! ### a row of reservations -/
def flatH (L : List HeldP) : List Value := L.flatMap (fun x => (heldC x).toList)
theorem flatH_snoc (L : List HeldP) (x : HeldP) : flatH (L ++ [x]) = flatH L ++ [.int .i64 x.1, .int .u32 x.2.1, .int .i64 x.2.2] := by simp [flatH, heldC]
theorem flatH_len (L : List HeldP) : (flatH L).length = L.length * 3 := by
  induction L with
  | nil => rfl
  | cons x r ih => unfold flatH at ih ⊢; rw [List.flatMap_cons, List.length_append, ih, List.length_cons]; simp [heldC]; omega
theorem flatH_at : ∀ (L : List HeldP) (i : Nat) (hi : i < L.length), (flatH L)[i * 3]? = some (.int .i64 L[i].1) ∧ (flatH L)[i * 3 + 1]? = some (.int .u32 L[i].2.1) ∧ (flatH L)[i * 3 + 2]? = some (.int .i64 L[i].2.2)
  | [], i, hi => absurd hi (Nat.not_lt_zero i)
  | x :: r, 0, _ => by simp [flatH, heldC]
  | x :: r, i + 1, hi => by
    have h := flatH_at r i (by simpa using hi)
    have e : flatH (x :: r) = (heldC x).toList ++ flatH r := rfl
    have hl : (heldC x).toList.length = 3 := rfl
    rw [e, List.getElem_cons_succ]
    refine ⟨?_, ?_, ?_⟩
    · rw [List.getElem?_append_right (by omega), show (i + 1) * 3 - (heldC x).toList.length = i * 3 by omega]; exact h.1
    · rw [List.getElem?_append_right (by omega), show (i + 1) * 3 + 1 - (heldC x).toList.length = i * 3 + 1 by omega]; exact h.2.1
    · rw [List.getElem?_append_right (by omega), show (i + 1) * 3 + 2 - (heldC x).toList.length = i * 3 + 2 by omega]; exact h.2.2
theorem rowH_cells {V : World} {base : Nat} {v : Value} {L : List HeldP} (h : V.ownsRow base 38 3 v L.length (flatH L)) : ∃ A c, v = .slice A L.length c ∧ (L.length = 0 ∨ ∃ gr, A = some ⟨gr, 0, none⟩ ∧ base ≤ gr ∧ gr < V.heap.size ∧ L.length ≤ c ∧ ∀ X : World, X.heap[gr]? = V.heap[gr]? → ∀ i (hi : i < L.length), X.cell? ⟨gr, i * 3, none⟩ = some (.int .i64 L[i].1) ∧ X.cell? ⟨gr, i * 3 + 1, none⟩ = some (.int .u32 L[i].2.1) ∧ X.cell? ⟨gr, i * 3 + 2, none⟩ = some (.int .i64 L[i].2.2)) := by
  rcases h.2 with ⟨h1, h2⟩ | ⟨gr, cap, cur, h1, h2, h3, h4, h5, h6, h7⟩
  · exact ⟨none, 0, by rw [h1, h2], .inl h2⟩
  · refine ⟨_, _, h1, .inr ⟨gr, rfl, h2, (Array.getElem?_eq_some_iff.1 h3).1, h4, fun X hX i hi => ?_⟩⟩
    have key : ∀ j z, (flatH L)[j]? = some z → X.cell? ⟨gr, j, none⟩ = some z := by
      intro j z hz
      have hj : j < L.length * 3 := by rw [← flatH_len]; exact (List.getElem?_eq_some_iff.1 hz).1
      rw [← h7, List.getElem?_take_of_lt hj, Array.getElem?_toList] at hz
      unfold World.cell?
      dsimp only
      rw [hX, h3]
      simp [hz]
    obtain ⟨a1, a2, a3⟩ := flatH_at L i hi
    exact ⟨key _ _ a1, key _ _ a2, key _ _ a3⟩
theorem infoH : (Try.prog.info? 38).map (fun i => (i.zero, i.size, i.bytes)) = some (some (.agg #[.int .i64 0, .int .u32 0, .int .i64 0]), 3, 24) := by kernel_rfl
theorem info_parts {P : Program} {t : TypeId} {z : Value} {s b : Nat} (h : (P.info? t).map (fun i => (i.zero, i.size, i.bytes)) = some (some z, s, b)) : ∃ i, P.info? t = some i ∧ i.zero = some z ∧ i.size = s ∧ i.bytes = b := by
  cases hi : P.info? t with
  | none => rw [hi] at h; cases h
  | some i =>
    rw [hi] at h
    injection h with h
    injection h with h1 h2
    injection h2 with h2 h3
    exact ⟨i, rfl, h1, h2, h3⟩
end Go.Proofs.Ytglpjoijkinlbaa.Rv
