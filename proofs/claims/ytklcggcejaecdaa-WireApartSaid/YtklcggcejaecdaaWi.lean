/-
  wire's reader: its addresses, told one by one (addrs), and a range over an iterator that writes to an object of its own. Conditions: bytes are bytes.
-/
import Derived.Test.YtklcggcejaecdaaWr
import Derived.Lib.SliceRun
import Derived.RangeFuncNested
import Derived.RangeFuncBound
import Derived.RangeFuncCalls
import Derived.RangeFuncLeaves
import Derived.RangeFuncBox
import Derived.Shelf.Abstract
import Derived.OwnWalkIn
import Derived.TacticsInMore
import Derived.LoopIn
import Derived.Sort.LoopGhostIn
import Derived.Deep.LoopGhost
namespace Go.Proofs.Ytklcggcejaecdaa.Wi
open Go.RowKit Go.Shelf Go.Proofs.Ytklcggcejaecdaa.H Go.Proofs.Ytklcggcejaecdaa.Uv Go.Proofs.Ytklcggcejaecdaa.Fr Go.Proofs.YtklcggcejaecdaaW.PrintWords Go.Proofs.YtklcggcejaecdaaW.PrintLast Go.Proofs.YtklcggcejaecdaaW.PrintMore
set_option linter.unusedVariables false
set_option linter.unusedSimpArgs false
attribute [local go_sem] Oper.semAt_some
/-! ### what a round must leave as it lay: the blocks of S -/
def KeepS (S : Nat → Prop) (W W' : World) : Prop := W.heap.size ≤ W'.heap.size ∧ ∀ b, S b → W'.heap[b]? = W.heap[b]?
theorem KeepS.refl (S : Nat → Prop) (W : World) : KeepS S W W := ⟨Nat.le_refl _, fun _ _ => rfl⟩
theorem KeepS.trans {S : Nat → Prop} {A B C : World} (h : KeepS S A B) (k : KeepS S B C) : KeepS S A C := ⟨Nat.le_trans h.1 k.1, fun b h1 => (k.2 b h1).trans (h.2 b h1)⟩
theorem KeepS.cell {S : Nat → Prop} {W W' : World} (h : KeepS S W W') {p : Addr} (h1 : S p.block) : W'.cell? p = W.cell? p := World.cell?_of_block (w := W) (h.2 p.block h1)
theorem KeepS.setCell {S : Nat → Prop} {W : World} {p : Addr} (h : ¬ S p.block) (v : Value) : KeepS S W (W.setCell p v) := ⟨by simp [World.setCell], fun b h1 => Below.heap_setCell _ _ _ _ (fun e => h (e ▸ h1))⟩
theorem KeepS.below {S : Nat → Prop} {B : Nat} {W W' : World} (h : Below B W W') (hS : ∀ b, S b → b < B) : KeepS S W W' := ⟨h.size, fun b h2 => h.block b (hS b h2)⟩
theorem KeepS.put {S : Nat → Prop} (W : World) (l : Nat) (o o' : Obj) (hl : ¬ S l) (h : W.heap[l]? = some o) : KeepS S W (W.putObj l o') :=
  ⟨(Below.refl 0 W).grown (grownBy_putObj' W l o') (Nat.zero_le _) (fun _ _ => Nat.zero_le _) |>.size, fun b h2 => by
    by_cases hlt : b < W.heap.size
    · exact (grownBy_putObj' W l o').block b hlt (fun e => by cases e; exact hl h2)
    · have hl' := (Array.getElem?_eq_some_iff.1 h).1
      have hs : (W.putObj l o').heap.size = W.heap.size := by simp [World.putObj]
      rw [Array.getElem?_eq_none (by omega), Array.getElem?_eq_none (by omega)]⟩
theorem KeepS.grown {S : Nat → Prop} {W0 X Y : World} {row : Option Nat} (h : KeepS S W0 X) (hS : ∀ b, S b → b < W0.heap.size) (hg : X.grownBy Y row) (hr : ∀ r, row = some r → ¬ S r) : KeepS S W0 Y :=
  ⟨Nat.le_trans h.1 hg.size, fun b hb => (hg.block b (Nat.lt_of_lt_of_le (hS b hb) h.1) (fun e => hr b e.symm hb)).trans (h.2 b hb)⟩
theorem KeepS.boxed {S : Nat → Prop} {W W' : World} {B : Nat} {t : TypeId} {v : Value} (h : KeepS S W W') (hB : S B) (hb : Boxed W B t v) : Boxed W' B t v := (h.2 B hB).trans hb
theorem Boxed.below {W W' : World} {B : Nat} {t : TypeId} {v : Value} (h : Boxed W B t v) (hb : Below W.heap.size W W') : Boxed W' B t v := (hb.block B h.lt).trans h
theorem keepsOthers_below {W W' : World} (h : Below W.heap.size W W') : KeepsOthers W W' := KeepsOthers.of_grownBy (row := none) ⟨h.os, h.tape, h.output, h.size, fun k hk _ => h.block k hk⟩ (fun _ _ e => by cases e)
/-- A range over a function that ends, or is broken off, goes on in one place. -/
theorem wpIn_join {F : Fence} {n : Nat} {P : Program} {c : Code} {Q : Exit → Act → World → Prop} {a : Act} {w : World} (id : Nat) (Cond : Nat → World → Prop)
    (h1 : c.wpIn F n P (fun e a' W => (e = .normal ∨ e = .exit id) ∧ ∃ D, a' = { a with defers := { target := .collected D, args := #[] } :: a.defers } ∧ Cond D W) a w)
    (h2 : ∀ D W, Cond D W → Q .normal { a with defers := { target := .collected D, args := #[] } :: a.defers } W) (h3 : ∀ a' W, Q .normal a' W → Q (.exit id) a' W) : c.wpIn F n P Q a w :=
  wpIn_mono h1 (by
    rintro e a' W ⟨he, D, rfl, hc⟩
    rcases he with rfl | rfl
    · exact h2 D W hc
    · exact h3 _ _ (h2 D W hc))
theorem snoc_prefix {α : Type} {pre T : List α} (x : α) (hp : pre <+: T) : (pre ++ [x] <+: T) ↔ T[pre.length]? = some x := by
  obtain ⟨t, rfl⟩ := hp
  rw [List.prefix_append_right_inj, List.getElem?_append_right (Nat.le_refl _), Nat.sub_self]
  cases t with
  | nil => simp
  | cons y ys => simp [List.cons_prefix_cons, eq_comm]

/-! ### what a loop over an iterator wants, whatever the program -/
/-- The blocks from lo on and below hi lie as they lay. -/
def KeepIn (lo hi : Nat) (W W' : World) : Prop := W.heap.size ≤ W'.heap.size ∧ ∀ b, lo ≤ b → b < hi → W'.heap[b]? = W.heap[b]?
theorem KeepIn.refl (lo hi : Nat) (W : World) : KeepIn lo hi W W := ⟨Nat.le_refl _, fun _ _ _ => rfl⟩
theorem KeepIn.trans {lo hi : Nat} {A B C : World} (h : KeepIn lo hi A B) (k : KeepIn lo hi B C) : KeepIn lo hi A C := ⟨Nat.le_trans h.1 k.1, fun b h1 h2 => (k.2 b h1 h2).trans (h.2 b h1 h2)⟩
theorem KeepIn.cell {lo hi : Nat} {W W' : World} (h : KeepIn lo hi W W') {p : Addr} (h1 : lo ≤ p.block) (h2 : p.block < hi) : W'.cell? p = W.cell? p := World.cell?_of_block (w := W) (h.2 p.block h1 h2)
theorem KeepIn.setCell {lo hi : Nat} {W : World} {p : Addr} (h : p.block < lo ∨ hi ≤ p.block) (v : Value) : KeepIn lo hi W (W.setCell p v) := ⟨by simp [World.setCell], fun b h1 h2 => Below.heap_setCell _ _ _ _ (by omega)⟩
theorem KeepIn.below {lo hi B : Nat} {W W' : World} (h : Below B W W') (hh : hi ≤ B) : KeepIn lo hi W W' := ⟨h.size, fun b _ h2 => h.block b (by omega)⟩
theorem KeepIn.put {lo hi : Nat} (W : World) (l : Nat) (o o' : Obj) (hl : hi ≤ l) (h : W.heap[l]? = some o) : KeepIn lo hi W (W.putObj l o') :=
  ⟨(Below.refl 0 W).grown (grownBy_putObj' W l o') (Nat.zero_le _) (fun _ _ => Nat.zero_le _) |>.size, fun b _ h2 => (grownBy_putObj' W l o').block b (by have := (Array.getElem?_eq_some_iff.1 h).1; omega) (fun e => by cases e; omega)⟩
theorem grownBy_drewN (W : World) (n : Nat) (row : Option Nat) : W.grownBy (W.drewN n) row := ⟨rfl, rfl, rfl, Nat.le_refl _, fun _ _ _ => rfl⟩
theorem abides_drewN {β : Type} {B : Nat} {J : β → World → Prop} (hJ : AbidesFrom B J) {s : β} {W : World} (h : J s W) (n : Nat) : J s (W.drewN n) := hJ s W _ none h (grownBy_drewN W n none) (fun _ e => by cases e)
theorem abides_below {β : Type} {B : Nat} {J : β → World → Prop} (hJ : AbidesFrom B J) {s : β} {W W' : World} (h : J s W) (hb : Below W.heap.size W W') : J s W' :=
  hJ s W W' none h ⟨hb.os, hb.tape, hb.output, hb.size, fun k hk _ => hb.block k hk⟩ (fun _ e => by cases e)

theorem wp_calm {P : Program} {c : Code} {Q : Exit → Act → World → Prop} {a : Act} {w : World} (h : c.wp P (Exit.then (fun a w => Q .normal a w) (fun _ _ _ => False)) a w) : c.wp P Q a w :=
  wp_mono h (by
    intro e a w h
    cases e <;> first | exact h | exact h.elim)
/-- What an iterator owes that writes to the block R alone: it hands on a list of S, and E holds behind it. -/
def Told2 {α : Type} (F : Fence) (n : Nat) (P : Program) (g : Nat) (lb : Array Value) (encs : α → Array Value) (Kp : World → World → Prop) (S : List α → Prop) (E : List α → World → Prop) (R Bd : Nat) (w : World) : Prop :=
  ∀ (l : Nat) (J : List α → World → Prop) (W : World), Below w.heap.size w W → AbidesFrom W.heap.size J → (∀ pre V i v, J pre V → J pre (V.setCell ⟨R, i, none⟩ v)) →
    (∀ pre x W1, J pre W1 → pre.length < Bd → YieldAt F (n - 1) P l (encs x) W1 fun e W' => e = .returned (.bool true) ∧ J (pre ++ [x]) W' ∧ Kp W1 W') →
    J [] W → CallsIn F n P g (#[.func (.yield l) #[] #[]] ++ lb) W fun e W' => (∃ v, e = .returned v) ∧ ∃ xs, S xs ∧ E xs W' ∧ J xs W'
theorem own_below {β : Type} {B : Nat} {I : β → World → Prop} (hI : OwnFrom B I) {s : β} {W W' : World} (h : I s W) (hb : Below W.heap.size W W') : I s W' :=
  hI s W W' none h ⟨hb.os, hb.tape, hb.output, hb.size, fun k hk _ => hb.block k hk⟩ (fun _ e => by cases e)
/-- The range over it, whose rounds all go on; the loop's variable may lie in a box. -/
theorem range_told2 {α : Type} {F : Fence} {n : Nat} {P : Program} {g : Operand} {ps : Array Tmp} {assign body : Code} {Q : Exit → Act → World → Prop} {a : Act} {w : World}
    (hro : F.round = none) (h1 : 1 ≤ n) {gf : Nat} {lb : Array Value} (hg : a.eval g = .func (.func gf) #[] lb) (hFg : F.fn gf) (eg : ∀ args w, (callFunc gf args).run P w = .ok (.enter gf args) w)
    {encs : α → Array Value} {Kp : World → World → Prop} {S : List α → Prop} {E : List α → World → Prop} {R Bd : Nat} {w0 : World} (hseq : Told2 F (n - 1) P gf lb encs Kp S E R Bd w0)
    (hKt : ∀ {A B C : World}, Kp A B → Kp B C → Kp A C) (hKb : ∀ (W : World) (l : Nat) (o o' : Obj), w.heap.size ≤ l → W.heap[l]? = some o → o.isCells = false → o.isWalk = false → Kp W (W.putObj l o'))
    (hKB : ∀ A B : World, w.heap.size ≤ A.heap.size → Below A.heap.size A B → Kp A B) (hb0 : Below w0.heap.size w0 w) (hR : R < w.heap.size) (hps : ∀ x, (encs x).size = ps.size)
    (hE : ∀ xs (W : World) (l : Nat) (o o' : Obj), W.heap[l]? = some o → o.isCells = false → E xs W → E xs (W.putObj l o'))
    (I : List α → World → Prop) (hI : OwnFrom w.heap.size I) (hIR : ∀ pre V i v, I pre V → I pre (V.setCell ⟨R, i, none⟩ v)) (h0 : I [] w) (Ax : α → Nat → World → Prop)
    (hAx : ∀ x B (W : World) (l : Nat) (o o' : Obj), W.heap[l]? = some o → o.isCells = false → Ax x B W → Ax x B (W.putObj l o')) (F1 : α → Nat → Act)
    (hassign : ∀ (l : Nat) (pre : List α) (x : α) (W : World) (K : Act → World → Prop), I pre W → w.heap.size ≤ W.heap.size → (∀ B Wa, Below W.heap.size W Wa → Ax x B Wa → K (F1 x B) Wa) →
      assign.wpIn (F.inRound l) (n - 1 - 1) P (Exit.then K (fun _ _ _ => False)) { tmps := (ps.zip (encs x)).foldl (fun t (p, v) => t.setIfInBounds p v) a.tmps, defers := [] } W)
    (hbody : ∀ (l : Nat) (pre : List α) (x : α) (B : Nat) (W : World), I pre W → Ax x B W → w.heap.size ≤ W.heap.size → pre.length < Bd → body.wpIn (F.inRound l) (n - 1 - 1) P (fun e _ W' => e = .normal ∧ KeepsOthers W W' ∧ Kp W W' ∧ I (pre ++ [x]) W') (F1 x B) W)
    (hdone : ∀ (D : Nat) (xs : List α) (W : World), w.heap.size ≤ D → S xs → E xs W → I xs W → W.heap[D]? = some (.deferred (some [])) → Q .normal { a with defers := { target := .collected D, args := #[] } :: a.defers } W) :
    (Code.rangeFunc g ps assign body).wpIn F n P Q a w := by
  refine wpIn_rangeFunc (fun fn hfn => ?_)
  rw [hro]
  obtain ⟨rc, hrc⟩ : ∃ rc : LoopState → Loop, rc = fun st => { state := st, pending := none, fn := fn, tmps := a.tmps, params := ps, assign := assign, body := body, defers := w.heap.size } := ⟨_, rfl⟩
  obtain ⟨V, hV⟩ : ∃ V, (w.alloc (.deferred (some []))).alloc (.loop (rc .ready)) = V := ⟨_, rfl⟩
  have hbV : Below w.heap.size w V := by rw [← hV]; exact ((Below.refl _ w).alloc (Nat.le_refl _) _).alloc (by simp) _
  have hsV : V.heap.size = w.heap.size + 2 := by rw [← hV]; simp
  have hlV : V.heap[w.heap.size + 1]? = some (.loop (rc .ready)) := by
    rw [← hV]; have h := World.alloc_heap_new (w.alloc (.deferred (some []))) (.loop (rc .ready)); rwa [World.size_alloc] at h
  have hdV : V.heap[w.heap.size]? = some (.deferred (some [])) := by
    rw [← hV]; exact (Below.heap_alloc _ _ _ (by simp)).trans (World.alloc_heap_new w _)
  have hIV : I [] V := by rw [← hV]; exact hI.alloc _ (hI.alloc _ h0)
  refine ⟨w.heap.size + 1, [{ target := .collected w.heap.size, args := #[] }], V, { target := .fn (.func gf) lb, args := #[.func (.yield (w.heap.size + 1)) #[] #[]] }, V, gf, #[.func (.yield (w.heap.size + 1)) #[] #[]] ++ lb, V, ?_, ?_, ?_, ?_, fun _ => h1, ?_⟩
  · rw [← hV, hrc]; exact run_enterLoop_outer _ _ _ _ _
  · simp only [resolve, hg]
    simp [go_sem]
  · intro f' hf'
    simp [Target.leads] at hf'
    subst hf'
    exact hFg
  · simp [invoke, go_sem, eg]
  · refine (hseq (w.heap.size + 1) (fun pre W => I pre W ∧ W.heap[w.heap.size + 1]? = some (.loop (rc .ready)) ∧ W.heap[w.heap.size]? = some (.deferred (some []))) V (hb0.trans (hbV.mono hb0.size)) ?_ ?_ ?_ ⟨hIV, hlV, hdV⟩).mono ?_
    · intro s A B row hs hgr hr
      refine ⟨hI s A B row hs.1 hgr (fun r e => ?_), (grownBy_keeps hgr (fun r e => (hr r e).2) hs.2.1 rfl).trans hs.2.1, (grownBy_keeps hgr (fun r e => (hr r e).2) hs.2.2 rfl).trans hs.2.2⟩
      obtain ⟨h2, o, h3, h4⟩ := hr r e
      exact ⟨by omega, o, h3, Obj.not_cells_of_walk h4⟩
    · rintro pre V' i v ⟨hi, hl, hd⟩
      exact ⟨hIR _ _ _ _ hi, (Below.heap_setCell _ _ _ _ (show w.heap.size + 1 ≠ R by omega)).trans hl, (Below.heap_setCell _ _ _ _ (show w.heap.size ≠ R by omega)).trans hd⟩
    · rintro pre x W ⟨hi, hl, hd⟩ hbd
      have hlt : w.heap.size + 1 < W.heap.size := (Array.getElem?_eq_some_iff.1 hl).1
      have hy := run_yield (P := P) (args := encs x) hl (by rw [hrc]; exact hps x)
      rw [hrc] at hy
      refine ⟨fn, _, assign, body, hy, roundIn_of_wpIn hfn (hassign _ pre x W _ hi (by omega) (fun B Wa hba hax => ?_))⟩
      have hla : Wa.heap[w.heap.size + 1]? = some (.loop (rc .ready)) := (hba.block _ hlt).trans hl
      have hda : Wa.heap[w.heap.size]? = some (.deferred (some [])) := (hba.block _ (by omega)).trans hd
      have hia : I pre Wa := own_below hI hi hba
      have hsa := hba.size
      have hka : Kp W Wa := hKB _ _ (by omega) hba
      obtain ⟨W2, hW2⟩ : ∃ W2, Wa.putObj (w.heap.size + 1) (.loop (rc .busy)) = W2 := ⟨_, rfl⟩
      have hl2 : W2.heap[w.heap.size + 1]? = some (.loop (rc .busy)) := by rw [← hW2]; exact World.putObj_heap_same (by omega)
      have hd2 : W2.heap[w.heap.size]? = some (.deferred (some [])) := by rw [← hW2]; exact (World.putObj_heap_other (by omega)).trans hda
      have hk2 : Kp Wa W2 := by rw [← hW2]; exact hKb _ _ _ _ (by omega) hla rfl rfl
      have hi2 : I pre W2 := by rw [← hW2]; exact hI.putObj _ hia (by omega) hla rfl
      have hax2 : Ax x B W2 := by rw [← hW2]; exact hAx x B Wa _ _ _ hla rfl hax
      have hs2 : W2.heap.size = Wa.heap.size := by rw [← hW2]; simp [World.putObj]
      refine ⟨W2, ?_, ?_⟩
      · have h := run_beginRound (P := P) hla (by rw [hrc])
        rw [← hW2]
        rw [hrc] at h ⊢
        exact h
      · refine wpIn_mono (hbody _ pre x B W2 hi2 hax2 (by omega) hbd) ?_
        rintro e a3 W3 ⟨rfl, hko, hk3, hi3⟩
        have hl3 := hko.same _ _ hl2 rfl
        have hd3 := hko.same _ _ hd2 rfl
        have hlt3 := (Array.getElem?_eq_some_iff.1 hl3).1
        have he := run_endRound (P := P) none hl3
        refine ⟨_, _, he, rfl, ⟨hI.putObj _ hi3 (by omega) hl3 rfl, ?_, (World.putObj_heap_other (by omega)).trans hd3⟩, hKt (hKt hka hk2) (hKt hk3 (hKb _ _ _ _ (by omega) hl3 rfl rfl))⟩
        rw [World.putObj_heap_same hlt3, hrc]
        rfl
    · rintro e W2 ⟨⟨v, rfl⟩, xs, hS, hEx, hi, hl, hd⟩
      have he := run_endLoop (P := P) hl (by rw [hrc]; simp)
      rw [show (rc .ready).pending = none by rw [hrc]] at he
      exact ⟨none, _, he, hdone _ xs _ (Nat.le_refl _) hS (hE _ _ _ _ _ hl rfl hEx) (hI.putObj _ hi (by omega) hl rfl) ((World.putObj_heap_other (by omega)).trans hd)⟩
end Go.Proofs.Ytklcggcejaecdaa.Wi
