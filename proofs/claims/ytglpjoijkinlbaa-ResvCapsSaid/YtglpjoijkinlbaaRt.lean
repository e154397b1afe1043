/-
  A range over an iterator that tells, at each yield, what lies behind the value that it hands on; resv's All is one: it tells each row behind those ahead. Conditions: as the theorems state them.
-/
import Derived.Test.YtglpjoijkinlbaaRk
import Derived.RangeFuncFrom
import Derived.RangeFuncWrites
namespace Go.Proofs.Ytglpjoijkinlbaa.Rv
open Go.RowKit Go.Maps Go.Shelf Go.Sort Go.Proofs.YtglpjoijkinlbaaW.PrintWords Go.Proofs.YtglpjoijkinlbaaW.PrintLast Go.Proofs.YtglpjoijkinlbaaW.PrintMore
set_option linter.unusedVariables false
set_option linter.unusedSimpArgs false
attribute [local go_sem] Oper.semAt_some

/-- A range over a function that ends, or is broken off, goes on in one place. -/
theorem wpIn_join {F : Fence} {n : Nat} {P : Program} {c : Code} {Q : Exit → Act → World → Prop} {a : Act} {w : World} (id : Nat) (Cond : Nat → World → Prop)
    (h1 : c.wpIn F n P (fun e a' W => (e = .normal ∨ e = .exit id) ∧ ∃ D, a' = { a with defers := { target := .collected D, args := #[] } :: a.defers } ∧ Cond D W) a w)
    (h2 : ∀ D W, Cond D W → Q .normal { a with defers := { target := .collected D, args := #[] } :: a.defers } W) (h3 : ∀ a' W, Q .normal a' W → Q (.exit id) a' W) : c.wpIn F n P Q a w :=
  wpIn_mono h1 (by
    rintro e a' W ⟨he, D, rfl, hc⟩
    rcases he with rfl | rfl
    · exact h2 D W hc
    · exact h3 _ _ (h2 D W hc))
/-- What an iterator owes that tells T of each value: it hands on a list of S, and stops only behind it. -/
def Told {α : Type} (F : Fence) (n : Nat) (P : Program) (g : Nat) (lb : Array Value) (encs : α → Array Value) (Kp : World → World → Prop) (T : List α → α → World → Prop) (S : List α → Prop) (w : World) : Prop :=
  ∀ (l : Nat) (J : List α → World → Prop) (W : World), Below w.heap.size w W → AbidesFrom W.heap.size J →
    (∀ pre x W1, J pre W1 → T pre x W1 → YieldAt F (n - 1) P l (encs x) W1 fun e W' => e = .returned (.bool true) ∧ J (pre ++ [x]) W' ∧ Kp W1 W') →
    J [] W → CallsIn F n P g (#[.func (.yield l) #[] #[]] ++ lb) W fun e W' => (∃ v, e = .returned v) ∧ ∃ xs, S xs ∧ J xs W'
/-- The range over it, whose rounds all go on. -/
theorem range_told {α : Type} {F : Fence} {n : Nat} {P : Program} {g : Operand} {ps : Array Tmp} {assign body : Code} {Q : Exit → Act → World → Prop} {a : Act} {w : World}
    (hro : F.round = none) (h1 : 1 ≤ n) {gf : Nat} {lb : Array Value} (hg : a.eval g = .func (.func gf) #[] lb) (hFg : F.fn gf) (eg : ∀ args w, (callFunc gf args).run P w = .ok (.enter gf args) w)
    {encs : α → Array Value} {Kp : World → World → Prop} {T : List α → α → World → Prop} {S : List α → Prop} {w0 : World} (hseq : Told F (n - 1) P gf lb encs Kp T S w0)
    (hKt : ∀ {A B C : World}, Kp A B → Kp B C → Kp A C) (hKb : ∀ (W : World) (l : Nat) (o o' : Obj), w.heap.size ≤ l → W.heap[l]? = some o → o.isCells = false → o.isWalk = false → Kp W (W.putObj l o')) (hb0 : Below w0.heap.size w0 w) (hps : ∀ x, (encs x).size = ps.size)
    (hT : ∀ pre x (W : World) (l : Nat) (o o' : Obj), W.heap[l]? = some o → o.isCells = false → T pre x W → T pre x (W.putObj l o'))
    (I : List α → World → Prop) (hI : OwnFrom w.heap.size I) (h0 : I [] w) (a1 : α → Act)
    (hassign : ∀ (l : Nat) (x : α) (W : World) (K : Act → World → Prop), K (a1 x) W →
      assign.wpIn (F.inRound l) (n - 1 - 1) P (Exit.then K (fun _ _ _ => False)) { tmps := (ps.zip (encs x)).foldl (fun t (p, v) => t.setIfInBounds p v) a.tmps, defers := [] } W)
    (hbody : ∀ (l : Nat) (pre : List α) (x : α) (W : World), I pre W → T pre x W → body.wpIn (F.inRound l) (n - 1 - 1) P (fun e _ W' => e = .normal ∧ KeepsOthers W W' ∧ Kp W W' ∧ I (pre ++ [x]) W') (a1 x) W)
    (hdone : ∀ (D : Nat) (xs : List α) (W : World), w.heap.size ≤ D → S xs → I xs W → W.heap[D]? = some (.deferred (some [])) → Q .normal { a with defers := { target := .collected D, args := #[] } :: a.defers } W) :
    (Code.rangeFunc g ps assign body).wpIn F n P Q a w := by
  refine wpIn_rangeFunc (fun fn hfn => ?_)
  rw [hro]
  obtain ⟨rc, hrc⟩ : ∃ rc : LoopState → Loop, rc = fun st => { state := st, pending := none, fn := fn, tmps := a.tmps, params := ps, assign := assign, body := body, defers := w.heap.size } := ⟨_, rfl⟩
  obtain ⟨V, hV⟩ : ∃ V, (w.alloc (.deferred (some []))).alloc (.loop (rc .ready)) = V := ⟨_, rfl⟩
  have hbV : Below w.heap.size w V := by rw [← hV]; exact ((Below.refl _ w).alloc (Nat.le_refl _) _).alloc (by simp) _
  have hsV : V.heap.size = w.heap.size + 2 := by rw [← hV]; simp
  have hlV : V.heap[w.heap.size + 1]? = some (.loop (rc .ready)) := by
    rw [← hV]; have h := World.alloc_heap_new (w.alloc (.deferred (some []))) (.loop (rc .ready)); rwa [World.size_alloc] at h
  have hdV : V.heap[w.heap.size]? = some (.deferred (some [])) := by
    rw [← hV]; exact (Below.heap_alloc _ _ _ (by simp)).trans (World.alloc_heap_new w _)
  have hIV : I [] V := by rw [← hV]; exact hI.alloc _ (hI.alloc _ h0)
  refine ⟨w.heap.size + 1, [{ target := .collected w.heap.size, args := #[] }], V, { target := .fn (.func gf) lb, args := #[.func (.yield (w.heap.size + 1)) #[] #[]] }, V, gf, #[.func (.yield (w.heap.size + 1)) #[] #[]] ++ lb, V, ?_, ?_, ?_, ?_, fun _ => h1, ?_⟩
  · rw [← hV, hrc]; exact run_enterLoop_outer _ _ _ _ _
  · simp only [resolve, hg]
    simp [go_sem]
  · intro f' hf'
    simp [Target.leads] at hf'
    subst hf'
    exact hFg
  · simp [invoke, go_sem, eg]
  · refine (hseq (w.heap.size + 1) (fun pre W => I pre W ∧ W.heap[w.heap.size + 1]? = some (.loop (rc .ready)) ∧ W.heap[w.heap.size]? = some (.deferred (some []))) V (hb0.trans (hbV.mono hb0.size)) ?_ ?_ ⟨hIV, hlV, hdV⟩).mono ?_
    · intro s A B row hs hgr hr
      refine ⟨hI s A B row hs.1 hgr (fun r e => ?_), (grownBy_keeps hgr (fun r e => (hr r e).2) hs.2.1 rfl).trans hs.2.1, (grownBy_keeps hgr (fun r e => (hr r e).2) hs.2.2 rfl).trans hs.2.2⟩
      obtain ⟨h2, o, h3, h4⟩ := hr r e
      exact ⟨by omega, o, h3, Obj.not_cells_of_walk h4⟩
    · rintro pre x W ⟨hi, hl, hd⟩ ht
      have hlt : w.heap.size + 1 < W.heap.size := (Array.getElem?_eq_some_iff.1 hl).1
      have hy := run_yield (P := P) (args := encs x) hl (by rw [hrc]; exact hps x)
      rw [hrc] at hy
      obtain ⟨W2, hW2⟩ : ∃ W2, W.putObj (w.heap.size + 1) (.loop (rc .busy)) = W2 := ⟨_, rfl⟩
      have hl2 : W2.heap[w.heap.size + 1]? = some (.loop (rc .busy)) := by rw [← hW2]; exact World.putObj_heap_same hlt
      have hd2 : W2.heap[w.heap.size]? = some (.deferred (some [])) := by rw [← hW2]; exact (World.putObj_heap_other (by omega)).trans hd
      have hk2 : Kp W W2 := by rw [← hW2]; exact hKb _ _ _ _ (by omega) hl rfl rfl
      have hi2 : I pre W2 := by rw [← hW2]; exact hI.putObj _ hi (by omega) hl rfl
      have ht2 : T pre x W2 := by rw [← hW2]; exact hT pre x W _ _ _ hl rfl ht
      refine ⟨fn, _, assign, body, hy, roundIn_of_wpIn hfn (hassign _ x W _ ⟨W2, ?_, ?_⟩)⟩
      · have h := run_beginRound (P := P) hl (by rw [hrc])
        rw [← hW2]
        rw [hrc] at h ⊢
        exact h
      · refine wpIn_mono (hbody _ pre x W2 hi2 ht2) ?_
        rintro e a3 W3 ⟨rfl, hko, hk3, hi3⟩
        have hl3 := hko.same _ _ hl2 rfl
        have hd3 := hko.same _ _ hd2 rfl
        have hlt3 := (Array.getElem?_eq_some_iff.1 hl3).1
        have he := run_endRound (P := P) none hl3
        refine ⟨_, _, he, rfl, ⟨hI.putObj _ hi3 (by omega) hl3 rfl, ?_, (World.putObj_heap_other (by omega)).trans hd3⟩, hKt (hKt hk2 hk3) (hKb _ _ _ _ (by omega) hl3 rfl rfl)⟩
        rw [World.putObj_heap_same hlt3, hrc]
        rfl
    · rintro e W2 ⟨⟨v, rfl⟩, xs, hS, hi, hl, hd⟩
      have he := run_endLoop (P := P) hl (by rw [hrc]; simp)
      rw [show (rc .ready).pending = none by rw [hrc]] at he
      exact ⟨none, _, he, hdone _ xs _ (Nat.le_refl _) hS (hI.putObj _ hi (by omega) hl rfl) ((World.putObj_heap_other (by omega)).trans hd)⟩
/-- The range over it, whose rounds all go on; what is told is laid in a box of its own. -/
theorem range_told_box {α : Type} {F : Fence} {n : Nat} {P : Program} {g : Operand} {ps : Array Tmp} {assign body : Code} {Q : Exit → Act → World → Prop} {a : Act} {w : World}
    (hro : F.round = none) (h1 : 1 ≤ n) {gf : Nat} {lb : Array Value} (hg : a.eval g = .func (.func gf) #[] lb) (hFg : F.fn gf) (eg : ∀ args w, (callFunc gf args).run P w = .ok (.enter gf args) w)
    {encs : α → Array Value} {Kp : World → World → Prop} {T : List α → α → World → Prop} {S : List α → Prop} {w0 : World} (hseq : Told F (n - 1) P gf lb encs Kp T S w0)
    (hKt : ∀ {A B C : World}, Kp A B → Kp B C → Kp A C) (hKb : ∀ (W : World) (l : Nat) (o o' : Obj), w.heap.size ≤ l → W.heap[l]? = some o → o.isCells = false → o.isWalk = false → Kp W (W.putObj l o')) (hb0 : Below w0.heap.size w0 w) (hps : ∀ x, (encs x).size = ps.size)
    (hT : ∀ pre x (W : World) (l : Nat) (o o' : Obj), W.heap[l]? = some o → o.isCells = false → T pre x W → T pre x (W.putObj l o'))
    (o : α → Obj) (hKa : ∀ (W : World) (x : α), w.heap.size ≤ W.heap.size → Kp W (W.alloc (o x))) (hTa : ∀ pre x (W : World), T pre x W → T pre x (W.alloc (o x)))
    (I : List α → World → Prop) (hI : OwnFrom w.heap.size I) (h0 : I [] w) (a1 : α → Nat → Act)
    (hassign : ∀ (l : Nat) (x : α) (W : World) (B : Nat) (K : Act → World → Prop), W.heap.size = B → K (a1 x B) (W.alloc (o x)) →
      assign.wpIn (F.inRound l) (n - 1 - 1) P (Exit.then K (fun _ _ _ => False)) { tmps := (ps.zip (encs x)).foldl (fun t (p, v) => t.setIfInBounds p v) a.tmps, defers := [] } W)
    (hbody : ∀ (l : Nat) (pre : List α) (x : α) (B : Nat) (W : World), w.heap.size ≤ B → W.heap[B]? = some (o x) → I pre W → T pre x W → body.wpIn (F.inRound l) (n - 1 - 1) P (fun e _ W' => e = .normal ∧ KeepsFrom w.heap.size W W' ∧ Kp W W' ∧ I (pre ++ [x]) W') (a1 x B) W)
    (hdone : ∀ (D : Nat) (xs : List α) (W : World), w.heap.size ≤ D → S xs → I xs W → W.heap[D]? = some (.deferred (some [])) → Q .normal { a with defers := { target := .collected D, args := #[] } :: a.defers } W) :
    (Code.rangeFunc g ps assign body).wpIn F n P Q a w := by
  refine wpIn_rangeFunc (fun fn hfn => ?_)
  rw [hro]
  obtain ⟨rc, hrc⟩ : ∃ rc : LoopState → Loop, rc = fun st => { state := st, pending := none, fn := fn, tmps := a.tmps, params := ps, assign := assign, body := body, defers := w.heap.size } := ⟨_, rfl⟩
  obtain ⟨V, hV⟩ : ∃ V, (w.alloc (.deferred (some []))).alloc (.loop (rc .ready)) = V := ⟨_, rfl⟩
  have hbV : Below w.heap.size w V := by rw [← hV]; exact ((Below.refl _ w).alloc (Nat.le_refl _) _).alloc (by simp) _
  have hsV : V.heap.size = w.heap.size + 2 := by rw [← hV]; simp
  have hlV : V.heap[w.heap.size + 1]? = some (.loop (rc .ready)) := by
    rw [← hV]; have h := World.alloc_heap_new (w.alloc (.deferred (some []))) (.loop (rc .ready)); rwa [World.size_alloc] at h
  have hdV : V.heap[w.heap.size]? = some (.deferred (some [])) := by
    rw [← hV]; exact (Below.heap_alloc _ _ _ (by simp)).trans (World.alloc_heap_new w _)
  have hIV : I [] V := by rw [← hV]; exact hI.alloc _ (hI.alloc _ h0)
  refine ⟨w.heap.size + 1, [{ target := .collected w.heap.size, args := #[] }], V, { target := .fn (.func gf) lb, args := #[.func (.yield (w.heap.size + 1)) #[] #[]] }, V, gf, #[.func (.yield (w.heap.size + 1)) #[] #[]] ++ lb, V, ?_, ?_, ?_, ?_, fun _ => h1, ?_⟩
  · rw [← hV, hrc]; exact run_enterLoop_outer _ _ _ _ _
  · simp only [resolve, hg]
    simp [go_sem]
  · intro f' hf'
    simp [Target.leads] at hf'
    subst hf'
    exact hFg
  · simp [invoke, go_sem, eg]
  · refine (hseq (w.heap.size + 1) (fun pre W => I pre W ∧ W.heap[w.heap.size + 1]? = some (.loop (rc .ready)) ∧ W.heap[w.heap.size]? = some (.deferred (some []))) V (hb0.trans (hbV.mono hb0.size)) ?_ ?_ ⟨hIV, hlV, hdV⟩).mono ?_
    · intro s A B row hs hgr hr
      refine ⟨hI s A B row hs.1 hgr (fun r e => ?_), (grownBy_keeps hgr (fun r e => (hr r e).2) hs.2.1 rfl).trans hs.2.1, (grownBy_keeps hgr (fun r e => (hr r e).2) hs.2.2 rfl).trans hs.2.2⟩
      obtain ⟨h2, o, h3, h4⟩ := hr r e
      exact ⟨by omega, o, h3, Obj.not_cells_of_walk h4⟩
    · rintro pre x W ⟨hi, hl, hd⟩ ht
      have hlt : w.heap.size + 1 < W.heap.size := (Array.getElem?_eq_some_iff.1 hl).1
      have hy := run_yield (P := P) (args := encs x) hl (by rw [hrc]; exact hps x)
      rw [hrc] at hy
      obtain ⟨U, hU⟩ : ∃ U, W.alloc (o x) = U := ⟨_, rfl⟩
      have hlU : U.heap[w.heap.size + 1]? = some (.loop (rc .ready)) := by rw [← hU]; exact (Below.heap_alloc _ _ _ hlt).trans hl
      have hdU : U.heap[w.heap.size]? = some (.deferred (some [])) := by rw [← hU]; exact (Below.heap_alloc _ _ _ (by omega)).trans hd
      have hnU : U.heap[W.heap.size]? = some (o x) := by rw [← hU]; exact World.alloc_heap_new W (o x)
      have hsU : U.heap.size = W.heap.size + 1 := by rw [← hU]; simp
      have hiU : I pre U := by rw [← hU]; exact hI.alloc _ hi
      have htU : T pre x U := by rw [← hU]; exact hTa pre x W ht
      have hkU : Kp W U := by rw [← hU]; exact hKa W x (by omega)
      obtain ⟨W2, hW2⟩ : ∃ W2, U.putObj (w.heap.size + 1) (.loop (rc .busy)) = W2 := ⟨_, rfl⟩
      have hl2 : W2.heap[w.heap.size + 1]? = some (.loop (rc .busy)) := by rw [← hW2]; exact World.putObj_heap_same (by omega)
      have hd2 : W2.heap[w.heap.size]? = some (.deferred (some [])) := by rw [← hW2]; exact (World.putObj_heap_other (by omega)).trans hdU
      have hn2 : W2.heap[W.heap.size]? = some (o x) := by rw [← hW2]; exact (World.putObj_heap_other (by omega)).trans hnU
      have hk2 : Kp U W2 := by rw [← hW2]; exact hKb _ _ _ _ (by omega) hlU rfl rfl
      have hi2 : I pre W2 := by rw [← hW2]; exact hI.putObj _ hiU (by omega) hlU rfl
      have ht2 : T pre x W2 := by rw [← hW2]; exact hT pre x U _ _ _ hlU rfl htU
      refine ⟨fn, _, assign, body, hy, roundIn_of_wpIn hfn (hassign _ x W _ _ rfl ?_)⟩
      rw [hU]
      refine ⟨W2, ?_, ?_⟩
      · have h := run_beginRound (P := P) hlU (by rw [hrc])
        rw [← hW2]
        rw [hrc] at h ⊢
        exact h
      · refine wpIn_mono (hbody _ pre x _ W2 (by omega) hn2 hi2 ht2) ?_
        rintro e a3 W3 ⟨rfl, hko, hk3, hi3⟩
        have hl3 := hko.same _ _ (by omega) hl2 rfl
        have hd3 := hko.same _ _ (by omega) hd2 rfl
        have hlt3 := (Array.getElem?_eq_some_iff.1 hl3).1
        have he := run_endRound (P := P) none hl3
        refine ⟨_, _, he, rfl, ⟨hI.putObj _ hi3 (by omega) hl3 rfl, ?_, (World.putObj_heap_other (by omega)).trans hd3⟩, hKt hkU (hKt (hKt hk2 hk3) (hKb _ _ _ _ (by omega) hl3 rfl rfl))⟩
        rw [World.putObj_heap_same hlt3, hrc]
        rfl
    · rintro e W2 ⟨⟨v, rfl⟩, xs, hS, hi, hl, hd⟩
      have he := run_endLoop (P := P) hl (by rw [hrc]; simp)
      rw [show (rc .ready).pending = none by rw [hrc]] at he
      exact ⟨none, _, he, hdone _ xs _ (Nat.le_refl _) hS (hI.putObj _ hi (by omega) hl rfl) ((World.putObj_heap_other (by omega)).trans hd)⟩
set_option maxRecDepth 100000 in
set_option maxHeartbeats 4000000 in
theorem all_told (n : Nat) (hn : 1 ≤ n) (S : Nat → Prop) (p1 p2 b2 nn : Nat) (A : Option Addr) (c : Nat) (L : List HeldP) (w : World) (h1 : S p1) (h2 : S p2) (h3 : S b2) (hN : ∀ b, S b → b < w.heap.size)
    (c1 : w.cell? ⟨p1, 0, none⟩ = some (.slice A L.length c)) (c2 : w.cell? ⟨p2, 0, none⟩ = some (.map (some b2))) (hown : w.ownsMap Try.prog 3 heldR b2 nn (encL L)) (hr : Ris L) (hl : L.length ≤ 1000000) (hI : ∀ q ∈ L, I64 q.1)
    (hf : ∀ V, KeepS S w V → ∀ i (h : i < L.length), ∃ ad, A = some ad ∧ V.cell? (ad.add i) = some (.int .i64 L[i].1)) :
    Told Fence.wide n Try.prog 17 #[.pointer (some ⟨p1, 0, none⟩), .pointer (some ⟨p2, 0, none⟩)] encsH (KeepS S) (fun pre x _ => ∃ r, pre ++ x :: r = L) (fun xs => xs = L) w := fun lp J W hW hJ hY h0 => by
  have hkw : KeepS S w W := KeepS.below hW hN
  have hNW : ∀ b, S b → b < W.heap.size := fun b hb => Nat.lt_of_lt_of_le (hN b hb) hW.size
  have Hf := Lib.hid hf
  have Hkw := Lib.hid hkw
  have Hc1 := Lib.hid c1
  have Hc2 := Lib.hid c2
  have Hown := Lib.hid hown
  have Hr := Lib.hid hr
  have HI := Lib.hid hI
  obtain ⟨m, hm⟩ : ∃ m, L.length = m := ⟨_, rfl⟩
  have HM := Lib.hid hm
  have Hl := Lib.hid hl
  rw [hm] at c1
  have e1 := (hkw.cell (p := ⟨p1, 0, none⟩) h1).trans c1
  clear hf hkw c1 c2 hW hown hr hI hm hl
  refine callsIn_of_wp Try.func17 rfl trivial ?_ rfl
  simp only [Try.ntmps17, List.size_toArray, List.length_cons, List.length_nil, Nat.reduceAdd, Nat.reduceSub, Array.replicate_succ, Array.replicate_zero, List.push_toArray, List.append_toArray, List.nil_append, List.cons_append]
  gi_wp2
  clear e1
  gi_loopw [8] (fun v8 wr => ∃ i : Nat, v8 = .int .i64 i ∧ i ≤ m ∧ J (L.take i) wr ∧ KeepS S W wr) (fun v8 _ => m - (intOf v8).toNat)
  case atStart => exact ⟨0, rfl, Nat.zero_le _, by rw [List.take_zero]; exact h0, KeepS.refl _ _⟩
  case round =>
    obtain ⟨i, rfl, hi, hJs, hkp⟩ := hrel
    have hml := Hl.out
    rw [HM.out] at hml
    by_cases hlt : i < m
    · have hb1 : decide ((i : Int) < (m : Int)) = true := decide_eq_true (by omega)
      have hiL : i < L.length := by rw [HM.out]; exact hlt
      have hkwr := Hkw.out.trans hkp
      obtain ⟨ad, hA, hx⟩ := Hf.out wr hkwr i hiL
      obtain ⟨q, hq⟩ : ∃ q, L[i] = q := ⟨_, rfl⟩
      have hmem : q ∈ L := by rw [← hq]; exact List.getElem_mem hiL
      rw [hq] at hx
      subst hA
      have e2 := (hkwr.cell (p := ⟨p2, 0, none⟩) h2).trans Hc2.out
      have hown' : wr.ownsMap Try.prog 3 heldR b2 nn (encL L) := by
        obtain ⟨es, clock, hb, Ft, hs, hD⟩ := Hown.out
        exact ⟨es, clock, (hkwr.2 b2 h3).trans hb, Ft, hs, hD⟩
      obtain ⟨v, ps, hrun, hv⟩ := hown'.lookup K3 Try.underlying49 (zeroH wr) (heldR_mk (0, 0, 0)) (key_of (HI.out q hmem))
      rw [enc_at, get_mem Hr.out hmem] at hv
      obtain ⟨q', rfl, hq'⟩ := heldR_inv hv
      have hq' := encD_inj (congrArg Prod.fst hq')
      subst hq'
      have htk : L.take (i + 1) = L.take i ++ [q] := by rw [List.take_add_one, List.getElem?_eq_getElem hiL, hq]; rfl
      clear hown' hv hmem
      obtain ⟨fn, tmps, assign, body, hy, hR⟩ := hY (L.take i) q wr hJs ⟨L.drop (i + 1), by rw [← hq, List.getElem_cons_drop, List.take_append_drop]⟩
      dsimp only [encsH] at hy
      gi_wp2
      refine hR.mono ?_
      rintro r W3 ⟨rfl, hJ3, hk3⟩
      gi_wp2
      go_roundw
      case rel => exact ⟨i + 1, rfl, by omega, by rw [htk]; exact hJ3, hkp.trans hk3⟩
      case measure => simp [intOf]; omega
    · have hb1 : decide ((i : Int) < (m : Int)) = false := decide_eq_false (by omega)
      gi_wp2
      refine bodyPost_end (results_none rfl _ _ _) rfl ?_
      exact ⟨⟨_, rfl⟩, L, rfl, by rw [List.take_of_length_le (by rw [HM.out]; omega)] at hJs; exact hJs⟩
end Go.Proofs.Ytglpjoijkinlbaa.Rv
