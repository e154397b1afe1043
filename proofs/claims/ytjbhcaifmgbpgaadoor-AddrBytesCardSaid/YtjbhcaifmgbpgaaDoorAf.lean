/-
  A range over an iterator that writes a box of its own and that may be broken off; strings.SplitSeq at one byte. Conditions: as the theorems state them.
-/
import Derived.Test.YtjbhcaifmgbpgaaDoorAc
import Derived.RangeFuncKeeps
import Derived.RangeFuncBox
import Derived.RangeFuncLeaves
import Derived.RangeFuncCalls
import Derived.RangeFuncNested
import Derived.RangeFuncWrites
import Derived.BigRegion
import Derived.LoopIn
namespace Go.Proofs.YtjbhcaifmgbpgaaDoor.Ad
open Go Go.RowKit Go.Shelf Go.Proofs.YtjbhcaifmgbpgaaDoorW.PrintWords Go.Proofs.YtjbhcaifmgbpgaaDoorW.PrintLast Go.Proofs.YtjbhcaifmgbpgaaDoorW.PrintMore
set_option linter.unusedVariables false
set_option linter.unusedSimpArgs false
attribute [local go_sem] Oper.semAt_some
def KeepB (S : Nat → Prop) (W W' : World) : Prop := W.heap.size ≤ W'.heap.size ∧ ∀ b, S b → W'.heap[b]? = W.heap[b]?
theorem KeepB.refl (S : Nat → Prop) (W : World) : KeepB S W W := ⟨Nat.le_refl _, fun _ _ => rfl⟩
theorem KeepB.trans {S : Nat → Prop} {A B C : World} (h : KeepB S A B) (k : KeepB S B C) : KeepB S A C := ⟨Nat.le_trans h.1 k.1, fun b h1 => (k.2 b h1).trans (h.2 b h1)⟩
theorem KeepB.below {S : Nat → Prop} {B : Nat} {W W' : World} (h : Below B W W') (hS : ∀ b, S b → b < B) : KeepB S W W' := ⟨h.size, fun b h2 => h.block b (hS b h2)⟩
theorem KeepB.put {S : Nat → Prop} (W : World) (l : Nat) (o' : Obj) (hl : ¬ S l) : KeepB S W (W.putObj l o') :=
  ⟨by simp [World.putObj], fun b hb => World.putObj_heap_other (fun e => hl (e ▸ hb))⟩
theorem KeepB.setCell {S : Nat → Prop} {W : World} {p : Addr} (h : ¬ S p.block) (v : Value) : KeepB S W (W.setCell p v) := ⟨by simp [World.setCell], fun b h1 => Below.heap_setCell _ _ _ _ (fun e => h (e ▸ h1))⟩
/-- What an iterator owes that writes its box B: it hands on a list of S, or is broken off behind one of Sp. -/
def SeqW {α : Type} (F : Fence) (n : Nat) (P : Program) (g : Nat) (lb : Array Value) (encs : α → Array Value) (Kp : World → World → Prop) (T : List α → α → Prop) (S Sp : List α → Prop) (B : Nat) (w : World) : Prop :=
  ∀ (l : Nat) (J Jx : List α → World → Prop) (W : World), Below w.heap.size w W → AbidesFrom W.heap.size J → AbidesFrom W.heap.size Jx → (∀ s A v, J s A → J s (A.setCell ⟨B, 0, none⟩ v)) →
    (∀ pre x W1, J pre W1 → T pre x → YieldAt F (n - 1) P l (encs x) W1 fun e W' => (e = .returned (.bool true) ∧ J (pre ++ [x]) W' ∧ Kp W1 W') ∨ (e = .returned (.bool false) ∧ Jx (pre ++ [x]) W')) →
    J [] W → CallsIn F n P g (#[.func (.yield l) #[] #[]] ++ lb) W fun e W' => (∃ v, e = .returned v) ∧ ((∃ xs, S xs ∧ J xs W') ∨ (∃ pre, Sp pre ∧ Jx pre W'))
theorem range_w {α : Type} {F : Fence} {n : Nat} {P : Program} {g : Operand} {ps : Array Tmp} {assign body : Code} {Q : Exit → Act → World → Prop} {a : Act} {w : World}
    (hro : F.round = none) (h1 : 1 ≤ n) {gf : Nat} {lb : Array Value} (hg : a.eval g = .func (.func gf) #[] lb) (hFg : F.fn gf) (eg : ∀ args w, (callFunc gf args).run P w = .ok (.enter gf args) w)
    {encs : α → Array Value} {Kp : World → World → Prop} {T : List α → α → Prop} {S Sp : List α → Prop} {B : Nat} {w0 : World} (hseq : SeqW F (n - 1) P gf lb encs Kp T S Sp B w0) (hBlt : B < w.heap.size)
    (hKt : ∀ {A B C : World}, Kp A B → Kp B C → Kp A C) (hKb : ∀ (W : World) (l : Nat) (o o' : Obj), w.heap.size ≤ l → W.heap[l]? = some o → o.isCells = false → o.isWalk = false → Kp W (W.putObj l o')) (hb0 : Below w0.heap.size w0 w) (hps : ∀ x, (encs x).size = ps.size)
    (I : List α → World → Prop) (Ix : Code → List α → World → Prop) (hI : OwnFrom w.heap.size I) (hIx : ∀ c, OwnFrom w.heap.size (Ix c)) (hIB : ∀ s A v, I s A → I s (A.setCell ⟨B, 0, none⟩ v)) (h0 : I [] w) (a₁ : α → Act)
    (hassign : ∀ (l : Nat) (x : α) (W : World) (K : Act → World → Prop), K (a₁ x) W →
      assign.wpIn (F.inRound l) (n - 1 - 1) P (Exit.then K (fun _ _ _ => False)) { tmps := (ps.zip (encs x)).foldl (fun t (p, v) => t.setIfInBounds p v) a.tmps, defers := [] } W)
    (hbody : ∀ (l : Nat) (pre : List α) (x : α) (W : World), I pre W → T pre x → body.wpIn (F.inRound l) (n - 1 - 1) P (ownPostG w.heap.size Kp I Ix (pre ++ [x]) W) (a₁ x) W)
    (hdone : ∀ (D : Nat) (xs : List α) (W : World), w.heap.size ≤ D → S xs → I xs W → W.heap[D]? = some (.deferred (some [])) → Q .normal { a with defers := { target := .collected D, args := #[] } :: a.defers } W)
    (hstop : ∀ (D : Nat) (c : Code) (pre : List α) (W : World), w.heap.size ≤ D → Sp pre → Ix c pre W → W.heap[D]? = some (.deferred (some [])) → c.wpIn F n P Q { a with defers := { target := .collected D, args := #[] } :: a.defers } W) :
    (Code.rangeFunc g ps assign body).wpIn F n P Q a w := by
  refine wpIn_rangeFunc ?_
  intro fn hfn
  rw [hro]
  obtain ⟨rc, hrc⟩ : ∃ rc : LoopState → Option Code → Loop, rc = fun st pe => { state := st, pending := pe, fn, tmps := a.tmps, params := ps, assign, body, defers := w.heap.size } := ⟨_, rfl⟩
  obtain ⟨V, hV⟩ : ∃ V, (w.alloc (.deferred (some []))).alloc (.loop (rc .ready none)) = V := ⟨_, rfl⟩
  have hlV : V.heap[w.heap.size + 1]? = some (.loop (rc .ready none)) := by
    rw [← hV]; have := World.alloc_heap_new (w.alloc (.deferred (some []))) (.loop (rc .ready none)); rwa [World.size_alloc] at this
  have hdV : V.heap[w.heap.size]? = some (.deferred (some [])) := by
    rw [← hV]; exact (Below.heap_alloc _ _ _ (by simp)).trans (World.alloc_heap_new w _)
  have hIV : I [] V := by rw [← hV]; exact hI.alloc _ (hI.alloc _ h0)
  have hbV : Below w0.heap.size w0 V := by
    rw [← hV]; exact hb0.trans ((((Below.refl _ w).alloc (Nat.le_refl _) _).alloc (by simp) _).mono hb0.size)
  have hsV : V.heap.size = w.heap.size + 2 := by rw [← hV]; simp
  refine ⟨w.heap.size + 1, [{ target := .collected w.heap.size, args := #[] }], V, { target := .fn (.func gf) lb, args := #[.func (.yield (w.heap.size + 1)) #[] #[]] }, V, gf,
    #[.func (.yield (w.heap.size + 1)) #[] #[]] ++ lb, V, ?_, ?_, ?_, ?_, fun _ => h1, ?_⟩
  · rw [← hV, hrc]; exact run_enterLoop_outer _ _ _ _ _
  · simp only [resolve, hg]
    simp [go_sem]
  · intro f' hf'; simp [Target.leads] at hf'; subst hf'; exact hFg
  · simp [invoke, go_sem, eg]
  · have hnw : ∀ {A B : World} {row : Option Nat}, (∀ r, row = some r → V.heap.size ≤ r ∧ ∃ o : Obj, A.heap[r]? = some o ∧ o.isWalk = true) → (∀ r, row = some r → w.heap.size ≤ r ∧ ∃ o : Obj, A.heap[r]? = some o ∧ o.isCells = false) :=
      fun hr r e => by obtain ⟨hB, o, ho, hw⟩ := hr r e; exact ⟨by omega, o, ho, Obj.not_cells_of_walk hw⟩
    refine (hseq (w.heap.size + 1)
      (fun pre W => I pre W ∧ W.heap[w.heap.size + 1]? = some (.loop (rc .ready none)) ∧ W.heap[w.heap.size]? = some (.deferred (some [])))
      (fun pre W => ∃ c, Ix c pre W ∧ W.heap[w.heap.size + 1]? = some (.loop (rc .done (some c))) ∧ W.heap[w.heap.size]? = some (.deferred (some [])))
      V hbV
      (fun s A B row hs hg' hr => ⟨hI s A B row hs.1 hg' (hnw (B := B) hr), (grownBy_keeps hg' (fun r e => (hr r e).2) hs.2.1 rfl).trans hs.2.1, (grownBy_keeps hg' (fun r e => (hr r e).2) hs.2.2 rfl).trans hs.2.2⟩)
      (fun s A B row hs hg' hr => by
        obtain ⟨c, hc, hl, hk⟩ := hs
        exact ⟨c, hIx c s A B row hc hg' (hnw (B := B) hr), (grownBy_keeps hg' (fun r e => (hr r e).2) hl rfl).trans hl, (grownBy_keeps hg' (fun r e => (hr r e).2) hk rfl).trans hk⟩)
      (fun s A v hs => ⟨hIB s A v hs.1, (Below.heap_setCell _ _ _ _ (fun e => by have e : w.heap.size + 1 = B := e; omega)).trans hs.2.1, (Below.heap_setCell _ _ _ _ (fun e => by have e : w.heap.size = B := e; omega)).trans hs.2.2⟩)
      ?_ ⟨hIV, hlV, hdV⟩).mono ?_
    · rintro pre x W ⟨hi, hl, hk⟩ hTx
      have hlt : w.heap.size + 1 < W.heap.size := (Array.getElem?_eq_some_iff.1 hl).1
      have hy := run_yield (P := P) (args := encs x) hl (by rw [hrc]; exact hps x)
      rw [hrc] at hy
      refine ⟨fn, _, assign, body, hy, roundIn_of_wpIn hfn (hassign _ x W _ ⟨_, run_beginRound hl (by rw [hrc]), ?_⟩)⟩
      have hl2 : (W.putObj (w.heap.size + 1) (.loop { rc .ready none with state := .busy })).heap[w.heap.size + 1]? = some (.loop { rc .ready none with state := .busy }) := World.putObj_heap_same hlt
      have hk2 : (W.putObj (w.heap.size + 1) (.loop { rc .ready none with state := .busy })).heap[w.heap.size]? = some (.deferred (some [])) := (World.putObj_heap_other (by omega)).trans hk
      have hw2 : Kp W (W.putObj (w.heap.size + 1) (.loop { rc .ready none with state := .busy })) := hKb _ _ _ _ (by omega) hl rfl rfl
      refine wpIn_mono (hbody _ pre x _ (hI.putObj _ hi (by omega) hl rfl) hTx) ?_
      have fin : ∀ (jump : Option Code) (W3 : World), KeepsFrom w.heap.size (W.putObj (w.heap.size + 1) (.loop { rc .ready none with state := .busy })) W3 →
          (Instr.endRound (w.heap.size + 1) jump).run P W3 = .ok (.bool jump.isNone) (W3.putObj (w.heap.size + 1) (.loop (rc (if jump.isNone then .ready else .done) jump))) ∧
          W3.heap[w.heap.size + 1]? = some (.loop { rc .ready none with state := .busy }) ∧
          (W3.putObj (w.heap.size + 1) (.loop (rc (if jump.isNone then .ready else .done) jump))).heap[w.heap.size + 1]? = some (.loop (rc (if jump.isNone then .ready else .done) jump)) ∧
          (W3.putObj (w.heap.size + 1) (.loop (rc (if jump.isNone then .ready else .done) jump))).heap[w.heap.size]? = some (.deferred (some [])) := fun jump W3 hk3 => by
        have hl3 := hk3.same _ _ (by omega) hl2 rfl
        have := run_endRound (P := P) jump hl3
        rw [hrc] at this ⊢
        exact ⟨this, by rw [hrc] at hl3; exact hl3, World.putObj_heap_same (Array.getElem?_eq_some_iff.1 hl3).1, (World.putObj_heap_other (by omega)).trans (hk3.same _ _ (Nat.le_refl _) hk2 rfl)⟩
      rintro e a3 W3 hp
      cases e with
      | normal =>
        obtain ⟨hk3, hkp3, hi3⟩ := hp
        obtain ⟨hr, hl3, hl4, hk4⟩ := fin none W3 hk3
        exact ⟨_, _, hr, .inl ⟨rfl, ⟨hI.putObj _ hi3 (by omega) hl3 rfl, hl4, hk4⟩, hKt (hKt hw2 hkp3) (hKb _ _ _ _ (by omega) hl3 rfl rfl)⟩⟩
      | ret =>
        obtain ⟨hk3, hi3⟩ := hp
        obtain ⟨hr, hl3, hl4, hk4⟩ := fin (some .ret) W3 hk3
        exact ⟨_, _, hr, .inr ⟨rfl, .ret, (hIx _).putObj _ hi3 (by omega) hl3 rfl, hl4, hk4⟩⟩
      | exit id =>
        obtain ⟨hk3, hi3⟩ := hp
        obtain ⟨hr, hl3, hl4, hk4⟩ := fin (some (.exit id)) W3 hk3
        exact ⟨_, _, hr, .inr ⟨rfl, .exit id, (hIx _).putObj _ hi3 (by omega) hl3 rfl, hl4, hk4⟩⟩
      | goto t =>
        obtain ⟨hk3, hi3⟩ := hp
        obtain ⟨hr, hl3, hl4, hk4⟩ := fin (some (.goto t)) W3 hk3
        exact ⟨_, _, hr, .inr ⟨rfl, .goto t, (hIx _).putObj _ hi3 (by omega) hl3 rfl, hl4, hk4⟩⟩
      | panic ch => exact hp.elim
      | outgrown => exact hp.elim
    · rintro e W2 ⟨⟨v, rfl⟩, (⟨xs, hS, hi, hl, hk⟩ | ⟨pre, hSp, c, hi, hl, hk⟩)⟩
      · exact ⟨none, _, by have := run_endLoop (P := P) hl (by rw [hrc]; simp); rw [hrc] at this; exact this, hdone _ xs _ (Nat.le_refl _) hS (hI.putObj _ hi (by omega) hl rfl) ((World.putObj_heap_other (by omega)).trans hk)⟩
      · exact ⟨some c, _, by have := run_endLoop (P := P) hl (by rw [hrc]; simp); rw [hrc] at this; exact this, hstop _ c pre _ (Nat.le_refl _) hSp ((hIx c).putObj _ hi (by omega) hl rfl) ((World.putObj_heap_other (by omega)).trans hk)⟩
/-! ### SplitSeq's function -/
def strAt (W : World) (b : Nat) : Nat := match W.cell? ⟨b, 0, none⟩ with | some (.string s) => s.size | _ => 0
def encS (p : Str) : Array Value := #[.string (mk p)]
set_option maxRecDepth 100000 in
set_option maxHeartbeats 4000000 in
theorem seq_told (n : Nat) (hn : 1 ≤ n) (s : Str) (hs : s.length ≤ 1000000) (b1 b2 b3 : Nat) (w : World) (h12 : b1 ≠ b2) (h32 : b3 ≠ b2)
    (c1 : w.heap[b1]? = some (.cells #[.string ⟨#[46]⟩] 9 (0, 0))) (c2 : w.heap[b2]? = some (.cells #[.string (mk s)] 9 (0, 0))) (c3 : w.heap[b3]? = some (.cells #[.int .i64 0] 3 (0, 0))) :
    SeqW Fence.wide n Tryd.prog 56 #[.pointer (some ⟨b1, 0, none⟩), .pointer (some ⟨b2, 0, none⟩), .pointer (some ⟨b3, 0, none⟩)] encS (KeepB (fun b => b = b1 ∨ b = b2 ∨ b = b3)) (fun pre x => ∃ r, pre ++ x :: r = split1 46 s) (fun xs => xs = split1 46 s) (fun pre => ∃ r, pre ++ r = split1 46 s) b2 w := fun lp J Jx W hW hJ hJx hJB hY h0 => by
  have e1 := (hW.block b1 (Array.getElem?_eq_some_iff.1 c1).1).trans c1
  have e2 := (hW.block b2 (Array.getElem?_eq_some_iff.1 c2).1).trans c2
  have e3 := (hW.block b3 (Array.getElem?_eq_some_iff.1 c3).1).trans c3
  have d1 := cell_cellsN e1 0 (by simp)
  have d2 := cell_cellsN e2 0 (by simp)
  have d3 := cell_cellsN e3 0 (by simp)
  simp only [List.getElem_toArray, List.getElem_cons_zero, List.getElem_cons_succ] at d1 d2 d3
  have H1 := Lib.hid h12
  have H3 := Lib.hid h32
  have Hs := Lib.hid hs
  have E1 := Lib.hid e1
  have E2 := Lib.hid e2
  have E3 := Lib.hid e3
  have HJB := Lib.hid hJB
  clear h12 h32 c1 c2 c3 e1 e2 e3 hW hs hJB
  refine callsIn_of_wp Tryd.func56 rfl trivial ?_ rfl
  simp only [Tryd.ntmps56, List.size_toArray, List.length_cons, List.length_nil, Nat.reduceAdd, Nat.reduceSub, Array.replicate_succ, Array.replicate_zero, List.push_toArray, List.append_toArray, List.nil_append, List.cons_append]
  gi_wp2
  clear d1 d2 d3
  gi_loopw [] (fun wr => ∃ pre R, J pre wr ∧ pre ++ split1 46 R = split1 46 s ∧ R.length ≤ 1000000 ∧ wr.heap[b1]? = some (.cells #[.string ⟨#[46]⟩] 9 (0, 0)) ∧ wr.heap[b2]? = some (.cells #[.string (mk R)] 9 (0, 0)) ∧ wr.heap[b3]? = some (.cells #[.int .i64 0] 3 (0, 0))) (fun wr => strAt wr b2)
  case atStart => exact ⟨[], s, h0, rfl, Hs.out, E1.out, E2.out, E3.out⟩
  case round =>
    obtain ⟨pre, R, hj, hsp, hR, f1, f2, f3⟩ := hrel
    have d1 := cell_cellsN f1 0 (by simp)
    have d2 := cell_cellsN f2 0 (by simp)
    have d3 := cell_cellsN f3 0 (by simp)
    have z2 := frozen_cellsN f2 0
    simp only [List.getElem_toArray, List.getElem_cons_zero, List.getElem_cons_succ] at d1 d2 d3
    have F1 := Lib.hid f1
    have F2 := Lib.hid f2
    have F3 := Lib.hid f3
    have HR := Lib.hid hR
    have HSP := Lib.hid hsp
    have KI := Lib.hid (index_calls wr (mk R) 46)
    clear f1 f2 f3 hR hsp
    rcases index_split 46 R with ⟨hi, hz⟩ | ⟨i, hi, hlt, hz⟩
    · have HI := Lib.hid hi
      have HZ := Lib.hid hz
      obtain ⟨fn, tmps, assign, body, hy, hRd⟩ := hY pre R wr hj ⟨[], by rw [← HSP.out, HZ.out]⟩
      dsimp only [encS] at hy
      clear hi hz
      gi_wp2_with (refine ⟨trivial, ?_⟩; gi_at_call 44; refine (callsIn_wide.2 KI.out).mono ?_; rintro e w1 ⟨rfl, rfl⟩; rw [mk_data, HI.out])
      refine hRd.mono ?_
      rintro r W3 (⟨rfl, hJ3, hk3⟩ | ⟨rfl, hJ3⟩)
      · gi_wp2
        refine bodyPost_end (results_none rfl _ _ _) rfl ?_
        refine ⟨⟨_, rfl⟩, .inl ⟨_, rfl, ?_⟩⟩
        rw [← HSP.out, HZ.out]
        exact hJ3
      · gi_wp2
        refine bodyPost_end (results_none rfl _ _ _) rfl ?_
        exact ⟨⟨_, rfl⟩, .inr ⟨_, ⟨[], by rw [← HSP.out, HZ.out, List.append_nil]⟩, hJ3⟩⟩
    · have HI := Lib.hid hi
      have HZ := Lib.hid hz
      have hR1 := HR.out
      have s1 : wrap64 (i : Int) = i := by unfold wrap64; omega
      have s2 : wrap64 ((i : Int) + 1) = i + 1 := by unfold wrap64; omega
      have s3 : (i : Int) ≤ ((mk R).size : Int) := by rw [mk_size]; omega
      have s4 : (i : Int) + 1 ≤ ((mk R).size : Int) := by rw [mk_size]; omega
      have x1 : (mk R).extract 0 i = mk (R.take i) := ByteArray.ext (Array.toList_inj.1 (by rw [Lib.extract_data, mk_data, mk_data]; simp))
      have x2 : (mk R).extract (i + 1) (mk R).size = mk (R.drop (i + 1)) := ByteArray.ext (Array.toList_inj.1 (by rw [Lib.extract_data, mk_data, mk_data, mk_size, List.take_of_length_le (by simp)]))
      obtain ⟨fn, tmps, assign, body, hy, hRd⟩ := hY pre (R.take i) wr hj ⟨split1 46 (R.drop (i + 1)), by rw [← HSP.out, HZ.out]⟩
      dsimp only [encS] at hy
      have HLT := Lib.hid hlt
      clear hi hz hR1 hlt
      gi_wp2_with (refine ⟨trivial, ?_⟩; gi_at_call 44; refine (callsIn_wide.2 KI.out).mono ?_; rintro e w1 ⟨rfl, rfl⟩; rw [mk_data, HI.out])
      refine hRd.mono ?_
      rintro r W3 (⟨rfl, hJ3, hk3⟩ | ⟨rfl, hJ3⟩)
      · have g1 := (hk3.2 b1 (.inl rfl)).trans F1.out
        have g2 := (hk3.2 b2 (.inr (.inl rfl))).trans F2.out
        have g3 := (hk3.2 b3 (.inr (.inr rfl))).trans F3.out
        have c1 := cell_cellsN g1 0 (by simp)
        have c2 := cell_cellsN g2 0 (by simp)
        have y2 := frozen_cellsN g2 0
        simp only [List.getElem_toArray, List.getElem_cons_zero, List.getElem_cons_succ] at c1 c2
        have G1 := Lib.hid g1
        have G2 := Lib.hid g2
        have G3 := Lib.hid g3
        clear g1 g2 g3 d1 d2 d3 z2 hk3
        gi_wp2
        go_roundw
        case rel =>
          refine ⟨pre ++ [R.take i], R.drop (i + 1), HJB.out _ _ _ hJ3, by rw [List.append_assoc, ← HSP.out, HZ.out]; rfl, by rw [List.length_drop]; have := HR.out; omega, ?_, ?_, ?_⟩
          · exact (Below.heap_setCell _ _ _ _ (fun e => H1.out e)).trans G1.out
          · exact set_cellsN 0 G2.out rfl
          · exact (Below.heap_setCell _ _ _ _ (fun e => H3.out e)).trans G3.out
        case measure =>
          have m1 : strAt wr b2 = R.length := by
            unfold strAt
            rw [show wr.cell? ⟨b2, 0, none⟩ = some (.string (mk R)) from by have := cell_cellsN F2.out 0 (by simp); simpa using this]
            exact mk_size R
          have m2 : strAt (W3.setCell ⟨b2, 0, none⟩ (.string (mk (R.drop (i + 1))))) b2 = (R.drop (i + 1)).length := by
            unfold strAt
            have e := set_cellsN (z := .string (mk (R.drop (i + 1)))) 0 G2.out rfl
            rw [show (W3.setCell ⟨b2, 0, none⟩ (.string (mk (R.drop (i + 1))))).cell? ⟨b2, 0, none⟩ = some (.string (mk (R.drop (i + 1)))) from by have := cell_cellsN e 0 (by simp); simpa using this]
            exact mk_size _
          rw [m1, m2, List.length_drop]
          have := HLT.out
          omega
      · gi_wp2
        refine bodyPost_ret (results_none rfl _ _ _) rfl ?_
        exact ⟨⟨_, rfl⟩, .inr ⟨_, ⟨split1 46 (R.drop (i + 1)), by rw [List.append_assoc, ← HSP.out, HZ.out]; rfl⟩, hJ3⟩⟩
end Go.Proofs.YtjbhcaifmgbpgaaDoor.Ad
