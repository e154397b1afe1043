/-
  The stream's sender (flow.Sender): what its functions answer and what they leave. Conditions: at most 2 to the 20 bytes, numbers in their order.
-/
import Derived.Test.YtgkcncdanhkkoaaSep
import Derived.Deep.Draws
import Derived.Deep.AppendLies
import Derived.Maps.AppendAt
import Derived.Maps.OwnSet
import Derived.OwnWalk
import Derived.Laws.BytesArg
import Derived.Laws.OwnMore
import Derived.Tactics
import Derived.Laws.Slices
import Derived.WalkKit
import Derived.KernelRfl
import Derived.RowKit3
import Derived.Deep.LoopGhost
import Derived.Deep.QuietTactic
import Derived.BigQuiet
import Derived.BigRegion
import Derived.WideLaws
import Derived.Deep.RegionLaw
import Derived.Deep.Cut
import Derived.Deep.DeepCutAuto
import Derived.RowKit
import Derived.Lib.Hide
import Derived.Lib.SliceRun
import Derived.StillTailTactics
import Derived.Deep.RegionHeld3
import Derived.Test.YtgkcncdanhkkoaaWFoot
import Derived.Test.YtgkcncdanhkkoaaWWords
import Derived.Test.YtgkcncdanhkkoaaWLast
import Derived.Test.YtgkcncdanhkkoaaWMore
namespace Go.Proofs.Ytgkcncdanhkkoaa.Fw
open Go.RowKit Go.Maps Go.Proofs.Ytgkcncdanhkkoaa.Sp Go.Proofs.YtgkcncdanhkkoaaW.PrintWords Go.Proofs.YtgkcncdanhkkoaaW.PrintLast Go.Proofs.YtgkcncdanhkkoaaW.PrintMore
set_option linter.unusedVariables false
set_option linter.unusedSimpArgs false

theorem cell_cellsN {w : World} {g t : Nat} {cs : Array Value} (h : w.heap[g]? = some (.cells cs t (0, 0))) (j : Nat) (hj : j < cs.size) : w.cell? ⟨g, j, none⟩ = some cs[j] := by unfold World.cell?; rw [h]; simp [hj]
theorem frozen_cellsN {w : World} {g t : Nat} {cs : Array Value} (h : w.heap[g]? = some (.cells cs t (0, 0))) (j : Nat) : w.frozen? ⟨g, j, none⟩ = false := by unfold World.frozen?; rw [h]; simp
theorem set_cellsN {w : World} {g t : Nat} {cs cs' : Array Value} (j : Nat) {z : Value} (h : w.heap[g]? = some (.cells cs t (0, 0))) (hc : cs.setIfInBounds j z = cs') : (w.setCell ⟨g, j, none⟩ z).heap[g]? = some (.cells cs' t (0, 0)) := by
  subst hc
  unfold World.setCell
  show (w.heap.modify g _)[g]? = _
  rw [Array.getElem?_modify, if_pos rfl, h]
  rfl
theorem new_cellsN (w : World) (t : TypeId) (cs : Array Value) : (w.alloc (.cells cs t)).heap[w.heap.size]? = some (.cells cs t (0, 0)) := (MapKept.heap_alloc w (.cells cs t)).1
theorem i64_of {x : Int} (h : -9223372036854775808 ≤ x ∧ x ≤ 9223372036854775807) : IntKind.i64.wrap x = x := IntWalk.i64_in _ (by omega)

/-! ### bytes.Clone -/
theorem info8 : (Try.prog.info? 5).map (fun i => (i.zero, i.size, i.bytes)) = some (some (.int .u8 0), 1, 1) := by kernel_rfl
set_option maxRecDepth 100000 in
theorem clone_calls (A0 : Option Addr) (c0 : Nat) (l0 : List Int) (w : World) (hr0 : Kd.C (Kd.int .u8) w A0 l0.length l0) (hc0 : l0.length ≤ c0) (hl : l0.length < 140737488355328) :
    Calls Try.prog 28 #[.slice A0 l0.length c0] w fun e w' => ∃ v0_ : Value, e = .returned (v0_) ∧ Kd.R (Kd.int .u8) 5 w' w.heap.size (fun _ => True) v0_ l0 ∧ Below w.heap.size w w' := by
  have q22 : ∀ (w : World) (a : Option Addr) (n c n' c' : Nat), (binOp .eql 22 (.slice a n c) (.slice none n' c')).run Try.prog w = .ok (.bool a.isNone) w := fun w a n c n' c' => Lib.run_eql_slice_nil w 22 5 a n c n' c' Try.underlying22
  cases A0 with
  | none =>
    have h0 : l0 = [] := by
      cases l0 with
      | nil => rfl
      | cons x xs => obtain ⟨ad, e, _⟩ := hr0.2.2 (by simp); cases e
    subst h0
    go_enter Try.func28, Try.ntmps28
    go_wp2
    go_ret
    exact ⟨_, rfl, Kd.R_nil _ _ _ _ _, Below.refl _ _⟩
  | some ad =>
    have HR := Lib.hid hr0
    clear hr0
    go_enter Try.func28, Try.ntmps28
    go_wp2_with (first
      | ((with_reducible refine gate_dst (N := 5) rfl ?_); (try (refine gate_guard (by rfl) ?_; dsimp only)); refine Kd.R_lit (Kd.int .u8) _ 5 ?hg (N := 5) ?hd (xs := ([] : List Int)) (inner := []) (ok := fun _ => True) (okp := fun _ => True) ?hr ?hp (fun _ hk => hk) trivial (Below.refl _ _) (Nat.le_refl _) (by simp) ?_; (case hd => rfl); (case hg => rfl); (case hr => first | (go_simp; done) | (go_simp; rfl)); (case hp => exact (Reps.none _ _)); intro v50 w50 ho50 hb50 hg50 hnew50; clear hg50 hnew50)
      | ((with_reducible refine gate_builtin (b := .append) (xs := #[.tmp 5, .tmp 6]) rfl ?_); at_builtin; refine Kd.R_append_row (Value.int .u8) (0 : Int) (w0 := w) w.heap.size rfl (.tmp 5) (.tmp 6) 22 5 (.int .u8 0) 1 rfl Try.underlying22 info8 rfl (by omega) v50 [] l0 (some ad) l0.length c0 (fun _ => True) rfl rfl (fun _ _ => trivial) ho50 (Kd.C_below HR.out hb50) hb50 hb50.size (by simp; omega) ?_; intro v52 w52 ho52 hb52 hg52 hat52; rw [List.nil_append] at ho52; clear hg52 hat52))
    go_ret
    exact ⟨_, rfl, ho52, hb52⟩

theorem clone_n (A0 : Option Addr) (n c0 : Nat) (l0 : List Int) (w : World) (hn : n = l0.length) (hr0 : Kd.C (Kd.int .u8) w A0 l0.length l0) (hc0 : n ≤ c0) (hl : n < 140737488355328) :
    Calls Try.prog 28 #[.slice A0 n c0] w fun e w' => ∃ v0_ : Value, e = .returned (v0_) ∧ Kd.R (Kd.int .u8) 5 w' w.heap.size (fun _ => True) v0_ l0 ∧ Below w.heap.size w w' := by
  subst hn
  exact clone_calls A0 c0 l0 w hr0 hc0 hl
/-! ### the sender -/
structure S where
  l : List Int
  base : Nat
  next : Nat
  far : Nat
  limit : Nat
def S.fine (s : S) : Prop := s.base ≤ s.next ∧ s.next ≤ s.far ∧ s.far ≤ s.l.length ∧ s.l.length ≤ 1048576 ∧ s.limit ≤ 1052672 ∧ ∀ b ∈ s.l, 0 ≤ b ∧ b ≤ 255
def S0 : S := ⟨[], 0, 0, 0, 0⟩
theorem S0_fine : S0.fine := by unfold S.fine S0; simp
def SndAt (base g : Nat) (s : S) (w : World) (ok : Nat → Prop) : Prop :=
  ∃ v, w.heap[g]? = some (.cells #[v, .int .i64 s.base, .int .i64 s.next, .int .i64 s.far, .int .i64 s.limit] 68 (0, 0)) ∧ (ok g ∧ base ≤ g) ∧ (Kd.int .u8).R 5 w base ok v s.l ∧ s.fine
def sndOb (base g : Nat) (s : S) : Ob := ⟨SndAt base g s, by
  rintro w w1 ok ⟨v, h1, h2, h3, h4⟩ hm
  exact ⟨v, (hm g h2.1 (Array.getElem?_eq_some_iff.1 h1).1).trans h1, h2, Kd.R_step h3 hm, h4⟩⟩
theorem snd_new (w : World) : Calls Try.prog 14 #[] w fun e w' => e = .returned (.pointer (some ⟨w.heap.size, 0, none⟩)) ∧ SndAt w.heap.size w.heap.size S0 w' (fun k => k = w.heap.size) ∧ w'.heap.size = w.heap.size + 1 ∧ Below w.heap.size w w' := by
  go_enter Try.func14, Try.ntmps14
  go_wp2
  go_ret
  exact ⟨rfl, ⟨_, new_cellsN w _ _, ⟨rfl, Nat.le_refl _⟩, Kd.R_nil _ _ _ _ _, S0_fine⟩, by simp, (Below.refl _ _).alloc (Nat.le_refl _) _⟩
theorem u8_E (q : Nat) (hq : q ∈ (5 : Nat) :: (Kd.int .u8).E) : q ≠ 68 := by
  have h : (Kd.int .u8).E = [] := rfl
  rw [h, List.mem_singleton] at hq
  rw [hq]
  decide
theorem snd_left (base g : Nat) (s : S) (w : World) (ok : Nat → Prop) (h : SndAt base g s w ok) : Calls Try.prog 18 #[.pointer (some ⟨g, 0, none⟩)] w fun e w' => e = .returned (.tuple #[.int .i64 (s.l.length - s.base), .int .i64 (s.next - s.base)]) ∧ ∃ n, w' = w.drewN n := by
  obtain ⟨v, h1, h2, h3, h4⟩ := h
  obtain ⟨A, c, rfl, hc, hC⟩ := Kd.R_reads h3
  have c0 := cell_cellsN h1 0 (by simp)
  have c1 := cell_cellsN h1 1 (by simp)
  have c2 := cell_cellsN h1 2 (by simp)
  obtain ⟨b1, b2, b3, b4, b5, b6⟩ := h4
  dsimp only [List.getElem_toArray, List.getElem_cons_zero, List.getElem_cons_succ] at c0 c1 c2
  have e1 : IntKind.i64.wrap ((s.l.length : Int) - (s.base : Int)) = (s.l.length : Int) - (s.base : Int) := i64_of (by omega)
  have e2 : IntKind.i64.wrap ((s.next : Int) - (s.base : Int)) = (s.next : Int) - (s.base : Int) := i64_of (by omega)
  clear h1 h3 hC b6
  go_enter Try.func18, Try.ntmps18
  go_wp2
  go_quiet (fail)
  go_wp2
  go_ret2
  exact ⟨rfl, _, rfl⟩
theorem snd_again (base g : Nat) (s : S) (w : World) (ok : Nat → Prop) (h : SndAt base g s w ok) : Calls Try.prog 20 #[.pointer (some ⟨g, 0, none⟩)] w fun e w' => e = .returned (.tuple #[]) ∧ SndAt base g { s with next := s.base } w' ok ∧ Off ok w w' ∧ Below base w w' := by
  obtain ⟨v, h1, h2, h3, h4⟩ := h
  have c1 := cell_cellsN h1 1 (by simp)
  have f2 := frozen_cellsN h1 2
  have c2 := cell_cellsN h1 2 (by simp)
  dsimp only [List.getElem_toArray, List.getElem_cons_zero, List.getElem_cons_succ] at c1 c2
  have H1 := Lib.hid h1
  have H3 := Lib.hid h3
  have h4' : S.fine { s with next := s.base } := ⟨Nat.le_refl _, Nat.le_trans h4.1 h4.2.1, h4.2.2⟩
  clear h1 h3 h4
  go_enter Try.func20, Try.ntmps20
  go_wp2
  refine bodyPost_end (results_none rfl _ _ _) rfl ⟨rfl, ⟨v, set_cellsN 2 H1.out rfl, h2, ?_, h4'⟩, Off.set w (p := ⟨g, 2, none⟩) h2.1 _, (Below.refl _ _).setCell (p := ⟨g, 2, none⟩) h2.2 _⟩
  exact Kd.R_set H3.out H1.out u8_E 2 _
theorem Off.drew {ok : Nat → Prop} {w w' : World} (h : Off ok w w') : Off ok w w'.drew := h
theorem Kd.R_drew {α : Type} {d : Kd α} {e : Nat} {w : World} {base : Nat} {ok : Nat → Prop} {v : Value} {xs : List α} (h : d.R e w base ok v xs) : d.R e w.drew base ok v xs := Kd.R_step h (fun k _ _ => rfl)
theorem max_cast (a b : Nat) : max (a : Int) (b : Int) = ((max a b : Nat) : Int) := by omega
def ackB (s : S) (u d : Int) : Bool := decide (u < s.base) || decide ((s.far : Int) < u) || decide (d < 0) || decide (4096 < d)
def ackS (s : S) (u d : Nat) : S := { s with base := u, next := max s.next u, limit := max s.limit (u + d) }
theorem snd_ack_no (base g : Nat) (s : S) (w : World) (ok : Nat → Prop) (u d : Int) (h : SndAt base g s w ok) (hb : ackB s u d = true) : Calls Try.prog 16 #[.pointer (some ⟨g, 0, none⟩), .int .i64 u, .int .i64 d] w fun e w' => e = .returned (.bool false) ∧ w' = w := by
  obtain ⟨v, h1, h2, h3, h4⟩ := h
  have c1 := cell_cellsN h1 1 (by simp)
  have c3 := cell_cellsN h1 3 (by simp)
  dsimp only [List.getElem_toArray, List.getElem_cons_zero, List.getElem_cons_succ] at c1 c3
  clear h1 h3 h4
  unfold ackB at hb
  by_cases k1 : u < s.base
  · have b1 : decide (u < (s.base : Int)) = true := decide_eq_true k1
    go_enter Try.func16, Try.ntmps16
    go_wp2
    go_ret
    exact ⟨rfl, rfl⟩
  · have b1 : decide (u < (s.base : Int)) = false := decide_eq_false k1
    by_cases k2 : (s.far : Int) < u
    · have b2 : decide ((s.far : Int) < u) = true := decide_eq_true k2
      go_enter Try.func16, Try.ntmps16
      go_wp2
      go_ret
      exact ⟨rfl, rfl⟩
    · have b2 : decide ((s.far : Int) < u) = false := decide_eq_false k2
      by_cases k3 : d < 0
      · have b3 : decide (d < 0) = true := decide_eq_true k3
        go_enter Try.func16, Try.ntmps16
        go_wp2
        go_ret
        exact ⟨rfl, rfl⟩
      · have b3 : decide (d < 0) = false := decide_eq_false k3
        have b4 : decide (4096 < d) = true := by rw [b1, b2, b3] at hb; simpa using hb
        go_enter Try.func16, Try.ntmps16
        go_wp2
        go_ret
        exact ⟨rfl, rfl⟩
set_option maxRecDepth 100000 in
set_option maxHeartbeats 2000000 in
theorem snd_ack_yes (base g : Nat) (s : S) (w : World) (ok : Nat → Prop) (u d : Nat) (h : SndAt base g s w ok) (hb : ackB s u d = false) : Calls Try.prog 16 #[.pointer (some ⟨g, 0, none⟩), .int .i64 u, .int .i64 d] w fun e w' => e = .returned (.bool true) ∧ SndAt base g (ackS s u d) w' ok ∧ Off ok w w' ∧ Below base w w' := by
  obtain ⟨v, h1, h2, h3, h4⟩ := h
  have h5 := h4
  obtain ⟨b1, b2, b3, b4, b5, b6⟩ := h5
  have c1 := cell_cellsN h1 1 (by simp)
  have c2 := cell_cellsN h1 2 (by simp)
  have c3 := cell_cellsN h1 3 (by simp)
  have c4 := cell_cellsN h1 4 (by simp)
  have f1 := frozen_cellsN h1 1
  have f2 := frozen_cellsN h1 2
  have f4 := frozen_cellsN h1 4
  dsimp only [List.getElem_toArray, List.getElem_cons_zero, List.getElem_cons_succ] at c1 c2 c3 c4
  unfold ackB at hb
  simp only [Bool.or_eq_false_iff] at hb
  obtain ⟨⟨⟨k1, k2⟩, k3⟩, k4⟩ := hb
  have j1 := of_decide_eq_false k1
  have j2 := of_decide_eq_false k2
  have j4 := of_decide_eq_false k4
  have hf : (ackS s u d).fine := by
    unfold S.fine ackS
    dsimp only
    exact ⟨by omega, by omega, b3, b4, by omega, b6⟩
  have e1 : IntKind.i64.wrap ((u : Int) + (d : Int)) = (u : Int) + (d : Int) := i64_of (by omega)
  have H1 := Lib.hid h1
  have H3 := Lib.hid h3
  have H4 := Lib.hid hf
  clear h1 h3 b6 h4 hf
  go_enter Try.func16, Try.ntmps16
  go_wp2
  go_region
  have q1 : (if s.next < u then (u : Int) else (s.next : Int)) = ((max s.next u : Nat) : Int) := by split <;> omega
  have q2 : (if (s.limit : Int) < (u : Int) + (d : Int) then (u : Int) + (d : Int) else (s.limit : Int)) = ((max s.limit (u + d) : Nat) : Int) := by split <;> omega
  rw [q1, q2]
  obtain ⟨W, hW⟩ : ∃ W, (((w.setCell ⟨g, 1, none⟩ (.int .i64 u)).setCell ⟨g, 2, none⟩ (.int .i64 ((max s.next u : Nat) : Int))).setCell ⟨g, 4, none⟩ (.int .i64 ((max s.limit (u + d) : Nat) : Int))).drew = W := ⟨_, rfl⟩
  have HW := Lib.hid hW
  rw [hW]
  clear hW
  go_wp2
  go_ret
  have hW := HW.out
  refine ⟨rfl, ⟨v, ?_, h2, ?_, H4.out⟩, ?_, ?_⟩
  · rw [← hW]
    exact set_cellsN 4 (set_cellsN 2 (set_cellsN 1 H1.out rfl) rfl) rfl
  · rw [← hW]
    exact Kd.R_drew (Kd.R_set (Kd.R_set (Kd.R_set H3.out H1.out u8_E 1 _) (set_cellsN 1 H1.out rfl) u8_E 2 _) (set_cellsN 2 (set_cellsN 1 H1.out rfl) rfl) u8_E 4 _)
  · rw [← hW]
    exact Off.drew ((Off.set w (p := ⟨g, 1, none⟩) h2.1 _).trans ((Off.set _ (p := ⟨g, 2, none⟩) h2.1 _).trans (Off.set _ (p := ⟨g, 4, none⟩) h2.1 _)))
  · rw [← hW]
    exact ((((Below.refl _ _).setCell (p := ⟨g, 1, none⟩) h2.2 _).setCell (p := ⟨g, 2, none⟩) h2.2 _).setCell (p := ⟨g, 4, none⟩) h2.2 _).drew
/-! ### Write -/
def writeN (s : S) (l : List Int) : Nat := min l.length (1048576 - s.l.length)
def writeS (s : S) (l : List Int) : S := { s with l := s.l ++ l.take (writeN s l) }
theorem write_fine {s : S} {l : List Int} (h : s.fine) (hl : ∀ b ∈ l, 0 ≤ b ∧ b ≤ 255) : (writeS s l).fine := by
  obtain ⟨b1, b2, b3, b4, b5, b6⟩ := h
  unfold S.fine writeS writeN
  dsimp only
  rw [List.length_append, List.length_take]
  refine ⟨b1, b2, by omega, by omega, b5, fun b hb => ?_⟩
  rcases List.mem_append.1 hb with hb | hb
  · exact b6 b hb
  · exact hl b (List.mem_of_mem_take hb)
set_option maxRecDepth 100000 in
set_option maxHeartbeats 2000000 in
theorem snd_write (base g : Nat) (s : S) (w : World) (ok : Nat → Prop) (A : Option Addr) (c : Nat) (l : List Int) (h : SndAt base g s w ok) (hfr : ∀ k, w.heap.size ≤ k → ok k) (hbs : base ≤ w.heap.size)
    (hr : Kd.C (Kd.int .u8) w A l.length l) (hc : l.length ≤ c) (hl : ∀ b ∈ l, 0 ≤ b ∧ b ≤ 255) (hll : l.length ≤ 1000000000) :
    Calls Try.prog 15 #[.pointer (some ⟨g, 0, none⟩), .slice A l.length c] w fun e w' => e = .returned (.int .i64 (writeN s l)) ∧ SndAt base g (writeS s l) w' ok ∧ Off ok w w' ∧ Below base w w' := by
  obtain ⟨v, h1, h2, h3, h4⟩ := h
  obtain ⟨Av, cv, rfl, hcv, hCv⟩ := Kd.R_reads h3
  have h5 := h4
  obtain ⟨b1, b2, b3, b4, b5, b6⟩ := h5
  have c0 := cell_cellsN h1 0 (by simp)
  have f0 := frozen_cellsN h1 0
  dsimp only [List.getElem_toArray, List.getElem_cons_zero, List.getElem_cons_succ] at c0
  obtain ⟨n, hn⟩ : ∃ n, writeN s l = n := ⟨_, rfl⟩
  have e1 : IntKind.i64.wrap (1048576 - (s.l.length : Int)) = 1048576 - (s.l.length : Int) := i64_of (by omega)
  have e2 : (if 1048576 - (s.l.length : Int) < (l.length : Int) then 1048576 - (s.l.length : Int) else (l.length : Int)) = (n : Int) := by rw [← hn]; unfold writeN; split <;> omega
  have hnl : n ≤ l.length := by rw [← hn]; unfold writeN; omega
  have hnc : n ≤ c := by omega
  have hf : (writeS s l).fine := write_fine h4 hl
  have H1 := Lib.hid h1
  have H3 := Lib.hid h3
  have H4 := Lib.hid hf
  have HR := Lib.hid hr
  have HN := Lib.hid hn
  have HFR := Lib.hid hfr
  have hlt : (l.take n).length = n := by rw [List.length_take]; omega
  have hct := Kd.C_take hr hnl
  rw [hlt] at hct
  have hbd : Below w.heap.size w w.drew := (Below.refl _ w).drew
  have HRd := Lib.hid (Kd.C_below hct hbd)
  have H3d := Lib.hid (Kd.R_drew h3)
  have HBd := Lib.hid (show Below base w w.drew from (Below.refl _ w).drew)
  have hg0 : g < w.heap.size := (Array.getElem?_eq_some_iff.1 h1).1
  have hne := Lib.hid (Kd.R_ne h3 h1 (by decide))
  clear h1 h3 b6 h4 hf hr hn hl hfr hCv hct hbd
  go_enter Try.func15, Try.ntmps15
  go_upto_region 2 with fail
  go_cut [] from 15 (fun wx => ∃ v5 w5, wx = w5.setCell ⟨g, 0, none⟩ v5 ∧ (Kd.int .u8).R 5 w5 base ok v5 (s.l ++ l.take n) ∧ Below base w w5 ∧ w.drew.grownBy w5 (Value.slice Av s.l.length cv).ownBlock)
  case first =>
    go_region_law (refine Kd.R_append_rows_step (Kd.int .u8) (Rr := (Kd.int .u8).K w.drew) (w0 := w) base (by rfl) (.tmp 19) (.tmp 22) 22 5 (.int .u8 0) 1 rfl Try.underlying22 info8 rfl (by decide) (by decide) (.slice Av s.l.length cv) s.l (l.take n) A n c ok (fun _ => False) (by simp [Act.eval]) (by simp [Act.eval]) H3d.out HRd.out (fun _ _ h => h) (fun _ hk => hk.elim) (fun k hk => HFR.out k hk) HBd.out hbs (by omega) ?_; intro v5 w5 ho5 hb5 hg5 hat5; obtain ⟨A5, cp5, hv5, _, _⟩ := Kd.R_reads ho5; obtain ⟨m5, hm5⟩ : ∃ m, (s.l ++ l.take n).length = m := ⟨_, rfl⟩; rw [hm5] at hv5; subst hv5; have h5g := (hg5.block g hg0 hne.out).trans H1.out; have c5 := cell_cellsN h5g 0 (by simp); have f5 := frozen_cellsN h5g 0; dsimp only [List.getElem_toArray, List.getElem_cons_zero, List.getElem_cons_succ] at c5; have HO5 := Lib.hid ho5; have HB5 := Lib.hid hb5; have HG5 := Lib.hid hg5; clear ho5 hb5 hg5 hat5 h5g)
    all_goals
      go_wp2_with fail
      go_meet
      case rel => exact ⟨_, w5, rfl, HO5.out, HB5.out, HG5.out⟩
  case rest =>
    obtain ⟨v5, w5, rfl, ho5, hb5, hg5⟩ := hcut
    have h5g := (hg5.block g hg0 hne.out).trans H1.out
    have HO5 := Lib.hid ho5
    have HB5 := Lib.hid hb5
    have HG5 := Lib.hid hg5
    have H5 := Lib.hid h5g
    clear ho5 hb5 hg5 h5g
    go_wp2
    go_ret
    refine ⟨by rw [HN.out]; rfl, ⟨v5, set_cellsN 0 H5.out rfl, h2, ?_, H4.out⟩, ?_, HB5.out.setCell (p := ⟨g, 0, none⟩) h2.2 _⟩
    · have h := Kd.R_set HO5.out H5.out u8_E 0 v5
      unfold writeS
      rw [HN.out]
      exact h
    · refine Off.trans (Off.drew (Off.refl ok w)) (Off.trans (Off.grown HG5.out (fun k hk => H3d.out.1 k hk)) (Off.set w5 (p := ⟨g, 0, none⟩) h2.1 _))
/-! ### Next -/
theorem part_E (q : Nat) (hq : q ∈ (5 : Nat) :: (Kd.int .u8).E) : q ≠ 29 := by
  have h : (Kd.int .u8).E = [] := rfl
  rw [h, List.mem_singleton] at hq
  rw [hq]
  decide
theorem Off.later {ok : Nat → Prop} {w y : World} (h : Off ok w y) {p : Addr} (hp : w.heap.size ≤ p.block) (v : Value) : Off ok w (y.setCell p v) :=
  ⟨by have := h.1; simp [World.setCell]; omega, fun b hb hn => (Below.heap_setCell _ _ _ _ (by omega)).trans (h.2 b hb hn)⟩
theorem keep_two {w : World} {p : Nat} {x y v : Value} {a : Addr} (hb : a.block ≠ p) (h : w.cell? a = some v) : ((w.setCell ⟨p, 0, none⟩ x).setCell ⟨p, 1, none⟩ y).cell? a = some v :=
  (World.cell?_of_block (w := w) (by rw [Below.heap_setCell _ _ _ _ (show a.block ≠ (⟨p, 1, none⟩ : Addr).block from hb), Below.heap_setCell _ _ _ _ (show a.block ≠ (⟨p, 0, none⟩ : Addr).block from hb)])).trans h
theorem keep_new {w : World} {o : Obj} {v : Value} {a : Addr} (h : w.cell? a = some v) : (w.alloc o).cell? a = some v :=
  (((Below.refl w.heap.size w).alloc (Nat.le_refl _) o).cell (p := a) (World.block_lt_of_cell? _ _ h)).trans h
theorem keep_newtwo {w : World} {o : Obj} {x y v : Value} {a : Addr} (h : w.cell? a = some v) : (((w.alloc o).setCell ⟨w.heap.size, 0, none⟩ x).setCell ⟨w.heap.size, 1, none⟩ y).cell? a = some v :=
  keep_two (by have := World.block_lt_of_cell? _ _ h; omega) (keep_new h)
theorem run_min3 (x y z n : Int) (V : World) (h : min (min x y) z = n) : (Builtin.min_ #[3, 3, 3] 3 #[.int .i64 x, .int .i64 y, .int .i64 z]).run Try.prog V = .ok (.int .i64 n) V := by
  rw [min_three, min2_int]
  have e : (if z < (if y < x then y else x) then z else (if y < x then y else x)) = n := by rw [← h]; split <;> split <;> omega
  show (Builtin.min2 (.int .i64 (if y < x then y else x)) (.int .i64 z) >>= fun s => pure s).run Try.prog V = _
  rw [min2_int, e]
  rfl
def nextE (s : S) : Nat := min (s.next + 500) (min s.l.length s.limit)
def nextB (s : S) : List Int := (s.l.drop s.next).take (nextE s - s.next)
def nextS (s : S) : S := { s with next := nextE s, far := max s.far (nextE s) }
theorem next_fine {s : S} (h : s.fine) (hn : s.next < nextE s) : (nextS s).fine := by
  obtain ⟨b1, b2, b3, b4, b5, b6⟩ := h
  unfold nextE at hn
  unfold S.fine nextS nextE
  dsimp only
  exact ⟨by omega, by omega, by omega, b4, b5, b6⟩
theorem nextB_len {s : S} (h : s.fine) : (nextB s).length = nextE s - s.next := by
  unfold nextB nextE
  rw [List.length_take, List.length_drop]
  omega
theorem nextE_le (s : S) : nextE s ≤ s.next + 500 ∧ nextE s ≤ s.l.length ∧ nextE s ≤ s.limit := by unfold nextE; omega
set_option maxRecDepth 100000 in
set_option maxHeartbeats 2000000 in
theorem snd_next_no (base g : Nat) (s : S) (w : World) (ok : Nat → Prop) (h : SndAt base g s w ok) (hn : nextE s ≤ s.next) :
    Calls Try.prog 17 #[.pointer (some ⟨g, 0, none⟩)] w fun e w' => e = .returned (.tuple #[.agg #[.int .i64 0, .slice none 0 0], .bool false]) ∧ Below w.heap.size w w' := by
  obtain ⟨v, h1, h2, h3, h4⟩ := h
  obtain ⟨A, c, rfl, hc, hC⟩ := Kd.R_reads h3
  obtain ⟨b1, b2, b3, b4, b5, b6⟩ := h4
  have hg : g < w.heap.size := (Array.getElem?_eq_some_iff.1 h1).1
  obtain ⟨W, hW⟩ : ∃ W, w.alloc (.cells #[.int .i64 0, .slice none 0 0] 29) = W := ⟨_, rfl⟩
  have hbW : Below w.heap.size w W := by rw [← hW]; exact (Below.refl _ _).alloc (Nat.le_refl _) _
  have h1W := (hbW.block g hg).trans h1
  have hE : W.heap[w.heap.size]? = some (.cells #[.int .i64 0, .slice none 0 0] 29 (0, 0)) := by rw [← hW]; exact new_cellsN _ _ _
  have c0 := cell_cellsN h1W 0 (by simp)
  have c2 := cell_cellsN h1W 2 (by simp)
  have c4 := cell_cellsN h1W 4 (by simp)
  have d0 := cell_cellsN hE 0 (by simp)
  have d1 := cell_cellsN hE 1 (by simp)
  have fd0 := frozen_cellsN hE 0
  have fd1 := frozen_cellsN hE 1
  dsimp only [List.getElem_toArray, List.getElem_cons_zero, List.getElem_cons_succ] at c0 c2 c4 d0 d1
  have e1 : IntKind.i64.wrap ((s.next : Int) + 500) = (s.next : Int) + 500 := i64_of (by omega)
  obtain ⟨n, hne⟩ : ∃ n, nextE s = n := ⟨_, rfl⟩
  rw [hne] at hn
  have g1 : decide ((n : Int) ≤ (s.next : Int)) = true := decide_eq_true (by omega)
  have HE := Lib.hid hE
  have HBW := Lib.hid hbW
  have HNE := Lib.hid hne
  clear h1 h3 hC b6 h1W hE hbW
  go_enter Try.func17, Try.ntmps17
  go_wp2
  go_still_tail 14, (by kernel_rfl)
  change wpList _ _ _ _ _ W.drew
  obtain ⟨V, hV⟩ : ∃ V, W.drew = V := ⟨_, rfl⟩
  have HV := Lib.hid hV
  have c2v : V.cell? ⟨g, 2, none⟩ = some (.int .i64 s.next) := by rw [← hV]; exact c2
  have d0v : V.cell? ⟨w.heap.size, 0, none⟩ = some (.int .i64 0) := by rw [← hV]; exact d0
  have d1v : V.cell? ⟨w.heap.size, 1, none⟩ = some (.slice none 0 0) := by rw [← hV]; exact d1
  have f0v : V.frozen? ⟨w.heap.size, 0, none⟩ = false := by rw [← hV]; exact fd0
  have f1v : V.frozen? ⟨w.heap.size, 1, none⟩ = false := by rw [← hV]; exact fd1
  have q3 : (Builtin.min_ #[3, 3, 3] 3 #[.int .i64 ((s.next : Int) + 500), .int .i64 (s.l.length : Int), .int .i64 (s.limit : Int)]).run Try.prog V = .ok (.int .i64 n) V := run_min3 _ _ _ _ _ (by rw [← hne]; unfold nextE; omega)
  rw [hV]
  clear hV c0 c2 c4 d0 d1 fd0 fd1 hW
  go_wp2
  have hEv : V.heap[w.heap.size]? = some (.cells #[.int .i64 0, .slice none 0 0] 29 (0, 0)) := by rw [← HV.out]; exact HE.out
  have hE2 := set_cellsN 1 (z := .slice none 0 0) (set_cellsN 0 (z := .int .i64 0) hEv rfl) rfl
  have r0 := cell_cellsN hE2 0 (by simp)
  have r1 := cell_cellsN hE2 1 (by simp)
  refine bodyPost_ret (v := .tuple #[.agg #[.int .i64 0, .slice none 0 0], .bool false]) ?_ rfl ⟨rfl, ?_⟩
  · simp [results, Try.f17, Try.results17, go_sem, r0, r1]
  · rw [← HV.out]
    exact ((HBW.out.drew).setCell (p := ⟨w.heap.size, 0, none⟩) (Nat.le_refl _) _).setCell (p := ⟨w.heap.size, 1, none⟩) (Nat.le_refl _) _
set_option maxRecDepth 100000 in
set_option maxHeartbeats 2000000 in
theorem snd_next_yes (base g : Nat) (s : S) (w : World) (ok : Nat → Prop) (h : SndAt base g s w ok) (hn : s.next < nextE s) (hlt : ∀ k, ok k → k < w.heap.size) :
    Calls Try.prog 17 #[.pointer (some ⟨g, 0, none⟩)] w fun e w' => ∃ v, e = .returned (.tuple #[.agg #[.int .i64 s.next, v], .bool true]) ∧ (Kd.int .u8).R 5 w' w.heap.size (fun _ => True) v (nextB s) ∧ SndAt base g (nextS s) w' ok ∧ Off ok w w' ∧ Below base w w' := by
  obtain ⟨v, h1, h2, h3, h4⟩ := h
  obtain ⟨A, c, rfl, hc, hC⟩ := Kd.R_reads h3
  have hf := next_fine h4 hn
  have hbl := nextB_len h4
  obtain ⟨b1, b2, b3, b4, b5, b6⟩ := h4
  have hg : g < w.heap.size := (Array.getElem?_eq_some_iff.1 h1).1
  obtain ⟨W, hW⟩ : ∃ W, w.alloc (.cells #[.int .i64 0, .slice none 0 0] 29) = W := ⟨_, rfl⟩
  have hbW : Below w.heap.size w W := by rw [← hW]; exact (Below.refl _ _).alloc (Nat.le_refl _) _
  have h1W := (hbW.block g hg).trans h1
  have hE : W.heap[w.heap.size]? = some (.cells #[.int .i64 0, .slice none 0 0] 29 (0, 0)) := by rw [← hW]; exact new_cellsN _ _ _
  have hsW : W.heap.size = w.heap.size + 1 := by rw [← hW]; simp
  obtain ⟨V, hV⟩ : ∃ V, W.drew = V := ⟨_, rfl⟩
  have h1V : V.heap[g]? = some (.cells #[.slice A s.l.length c, .int .i64 s.base, .int .i64 s.next, .int .i64 s.far, .int .i64 s.limit] 68 (0, 0)) := by rw [← hV]; exact h1W
  have c0 := cell_cellsN h1W 0 (by simp)
  have c2 := cell_cellsN h1W 2 (by simp)
  have c4 := cell_cellsN h1W 4 (by simp)
  have c0v := cell_cellsN h1V 0 (by simp)
  have c2v := cell_cellsN h1V 2 (by simp)
  dsimp only [List.getElem_toArray, List.getElem_cons_zero, List.getElem_cons_succ] at c0 c2 c4 c0v c2v
  have e1 : IntKind.i64.wrap ((s.next : Int) + 500) = (s.next : Int) + 500 := i64_of (by omega)
  obtain ⟨n, hne⟩ : ∃ n, nextE s = n := ⟨_, rfl⟩
  have hnl := (nextE_le s).2.1
  rw [hne] at hn hnl hbl
  have g1 : decide ((n : Int) ≤ (s.next : Int)) = false := decide_eq_false (by omega)
  have g1n : decide (n ≤ s.next) = false := decide_eq_false (by omega)
  have q3 : (Builtin.min_ #[3, 3, 3] 3 #[.int .i64 ((s.next : Int) + 500), .int .i64 (s.l.length : Int), .int .i64 (s.limit : Int)]).run Try.prog V = .ok (.int .i64 n) V := run_min3 _ _ _ _ _ (by rw [← hne]; unfold nextE; omega)
  have HE := Lib.hid hE
  have HBW := Lib.hid hbW
  have H1V := Lib.hid h1V
  have H3 := Lib.hid h3
  have HF := Lib.hid hf
  have HC := Lib.hid hC
  have HV := Lib.hid hV
  have hgV : g < V.heap.size := (Array.getElem?_eq_some_iff.1 h1V).1
  have hne2 : ¬ (n = s.next) := by omega
  have hCn : (Kd.int .u8).C w (Option.map (fun x => x.add s.next) A) (nextB s).length (nextB s) := by
    have h := Kd.C_drop (m := s.next) hC (by omega) hc
    rw [if_neg (by omega)] at h
    have h2 := Kd.C_take (m := nextE s - s.next) h (by rw [List.length_drop, hne]; omega)
    have e : s.next * (Kd.int .u8).sz = s.next := Nat.mul_one _
    rw [e] at h2
    exact h2
  have hwV : Below w.heap.size w V := by rw [← hV]; exact hbW.drew
  have K28 := Lib.hid (fun W2 (hW2 : Below V.heap.size V W2) => clone_n (Option.map (fun x => x.add s.next) A) (n - s.next) (n - s.next) (nextB s) W2 hbl.symm (Kd.C_below hCn (hwV.trans (hW2.mono hwV.size))) (Nat.le_refl _) (by omega))
  have HWV := Lib.hid hwV
  have k1 : (0 : Int) ≤ (s.next : Int) := by omega
  have k2 : (s.next : Int) ≤ (n : Int) := by omega
  have k3 : (n : Int) ≤ (c : Int) := by omega
  clear h1 h3 hC b6 h1W hE hbW hf hV hCn hwV
  go_enter Try.func17, Try.ntmps17
  go_wp2
  go_still_tail 14, (by kernel_rfl)
  change wpList _ _ _ _ _ W.drew
  rw [HV.out]
  clear c0 c2 c4 h1V hW
  go_upto_region 4 with fail
  obtain ⟨VA, hVA⟩ : ∃ VA, V.alloc (.cells #[.int .i64 0, .slice none 0 0] 29) = VA := ⟨_, rfl⟩
  have hbA : Below V.heap.size V VA := by rw [← hVA]; exact (Below.refl _ _).alloc (Nat.le_refl _) _
  have hEA : VA.heap[V.heap.size]? = some (.cells #[.int .i64 0, .slice none 0 0] 29 (0, 0)) := by rw [← hVA]; exact new_cellsN _ _ _
  have hsA : VA.heap.size = V.heap.size + 1 := by rw [← hVA]; simp
  have c2a : VA.cell? ⟨g, 2, none⟩ = some (.int .i64 s.next) := (hbA.cell (p := ⟨g, 2, none⟩) hgV).trans c2v
  have c0a : VA.cell? ⟨g, 0, none⟩ = some (.slice A s.l.length c) := (hbA.cell (p := ⟨g, 0, none⟩) hgV).trans c0v
  have HBA := Lib.hid hbA
  have hgn : g ≠ V.heap.size := by omega
  have HEA := Lib.hid hEA
  go_cut [5] from 28 (fun s5 wx => ∃ p5 A1 cp1, s5 = .pointer (some ⟨p5, 0, none⟩) ∧ V.heap.size ≤ p5 ∧ wx.heap[p5]? = some (.cells #[.int .i64 s.next, .slice A1 (n - s.next) cp1] 29 (0, 0)) ∧ Below V.heap.size V wx ∧ (Kd.int .u8).R 5 wx V.heap.size (fun _ => True) (.slice A1 (n - s.next) cp1) (nextB s))
  case first =>
    go_region_held3 (fun w' => w'.cell? ⟨g, 2, none⟩ = some (.int .i64 s.next) ∧ w'.cell? ⟨g, 0, none⟩ = some (.slice A s.l.length c))
      (first | exact ⟨c2v, c0v⟩ | exact ⟨c2a, c0a⟩ | exact ⟨c2w, c0w⟩ | exact ⟨c2y, c0y⟩ | exact ⟨keep_new c2w, keep_new c0w⟩ | exact ⟨keep_two hgn c2y, keep_two hgn c0y⟩ | exact ⟨keep_newtwo c2w, keep_newtwo c0w⟩ | go_keep)
      (first
        | (go_at_call 28; refine (K28.out V.drew ?_).mono ?_; exact (Below.refl _ _).drew; rintro e1 w1 ⟨v1, rfl, hR1, hb1⟩; have HB1 := Lib.hid ((Below.refl V.heap.size V).drew.trans hb1); have HR1 := Lib.hid hR1; have c2w := (HB1.out.cell (p := ⟨g, 2, none⟩) hgV).trans c2v; have c0w := (HB1.out.cell (p := ⟨g, 0, none⟩) hgV).trans c0v; obtain ⟨A1, cp1, hv1, _, _⟩ := Kd.R_reads hR1; rw [hbl] at hv1; subst hv1; clear hR1 hb1)
        | (go_at_call 28; refine (K28.out VA.drew ?_).mono ?_; exact HBA.out.drew; rintro e1 w2 ⟨v1, rfl, hR1, hb1⟩; have HB2 := Lib.hid (HBA.out.drew.trans (hb1.mono HBA.out.size)); have HBB2 := Lib.hid hb1; have HR2 := Lib.hid hR1; have c2y := (HB2.out.cell (p := ⟨g, 2, none⟩) hgV).trans c2v; have c0y := (HB2.out.cell (p := ⟨g, 0, none⟩) hgV).trans c0v; obtain ⟨A1, cp1, hv1, _, _⟩ := Kd.R_reads hR1; rw [hbl] at hv1; subst hv1; have hE2 := (hb1.block V.heap.size (by show V.heap.size < VA.heap.size; omega)).trans HEA.out; have HE2 := Lib.hid hE2; have p0 := cell_cellsN hE2 0 (by simp); have p1 := cell_cellsN hE2 1 (by simp); have pf0 := frozen_cellsN hE2 0; have pf1 := frozen_cellsN hE2 1; clear hR1 hb1 hE2))
    all_goals
      go_wp2_with fail
      go_meet
      case rel =>
        first
          | exact ⟨w1.heap.size, A1, cp1, rfl, HB1.out.size, new_cellsN _ _ _, HB1.out.trans ((Below.refl _ w1).alloc HB1.out.size _), Kd.R_lower (Kd.R_below HR1.out ((Below.refl w1.heap.size w1).alloc (Nat.le_refl _) _)) (Nat.le_refl _)⟩
          | exact ⟨V.heap.size, A1, cp1, rfl, Nat.le_refl _, set_cellsN 1 (set_cellsN 0 HE2.out rfl) rfl, (HB2.out.setCell (p := ⟨V.heap.size, 0, none⟩) (Nat.le_refl _) _).setCell (p := ⟨V.heap.size, 1, none⟩) (Nat.le_refl _) _, Kd.R_lower (Kd.R_set (Kd.R_set HR2.out HE2.out part_E 0 _) (set_cellsN 0 HE2.out rfl) part_E 1 _) (by show V.heap.size ≤ VA.heap.size; omega)⟩
  case rest =>
    obtain ⟨p5, A1, cp1, rfl, hp5, hE5, hb5, hR5⟩ := hcut
    have h1c := (hb5.block g hgV).trans H1V.out
    have c3c := cell_cellsN h1c 3 (by simp)
    have f2c := frozen_cellsN h1c 2
    have f3c := frozen_cellsN h1c 3
    have c2c := cell_cellsN h1c 2 (by simp)
    dsimp only [List.getElem_toArray, List.getElem_cons_zero, List.getElem_cons_succ] at c3c c2c
    have H1C := Lib.hid h1c
    have HE5 := Lib.hid hE5
    have HB5 := Lib.hid hb5
    have HR5 := Lib.hid hR5
    clear h1c hE5 hb5 hR5 c2v c0v c2a c0a hbA hEA hVA K28
    go_upto_region 6 with fail
    have q2 : (if s.far < n then (n : Int) else (s.far : Int)) = ((max s.far n : Nat) : Int) := by split <;> omega
    rw [q2]
    obtain ⟨X, hX⟩ : ∃ X, (wc.setCell ⟨g, 2, none⟩ (.int .i64 n)).setCell ⟨g, 3, none⟩ (.int .i64 ((max s.far n : Nat) : Int)) = X := ⟨_, rfl⟩
    have HX := Lib.hid hX
    have hgw : g ≠ w.heap.size := by omega
    have hVs := HWV.out.size
    have hWV1 : V.heap.size = w.heap.size + 1 := by rw [← HV.out]; exact hsW
    have hpg : p5 ≠ g := by omega
    have hE0 : wc.heap[w.heap.size]? = some (.cells #[.int .i64 0, .slice none 0 0] 29 (0, 0)) := (HB5.out.block _ (by omega)).trans (by rw [← HV.out]; exact HE.out)
    have hEX : X.heap[w.heap.size]? = some (.cells #[.int .i64 0, .slice none 0 0] 29 (0, 0)) := by
      rw [← hX, Below.heap_setCell _ _ _ _ (show w.heap.size ≠ g by omega), Below.heap_setCell _ _ _ _ (show w.heap.size ≠ g by omega)]; exact hE0
    have h5X : X.heap[p5]? = some (.cells #[.int .i64 s.next, .slice A1 (n - s.next) cp1] 29 (0, 0)) := by
      rw [← hX, Below.heap_setCell _ _ _ _ (show p5 ≠ g from hpg), Below.heap_setCell _ _ _ _ (show p5 ≠ g from hpg)]; exact HE5.out
    have x0 := cell_cellsN h5X 0 (by simp)
    have x1 := cell_cellsN h5X 1 (by simp)
    have y0 := cell_cellsN hEX 0 (by simp)
    have y1 := cell_cellsN hEX 1 (by simp)
    have z0 := frozen_cellsN hEX 0
    have z1 := frozen_cellsN hEX 1
    dsimp only [List.getElem_toArray, List.getElem_cons_zero, List.getElem_cons_succ] at x0 x1 y0 y1
    have HEX := Lib.hid hEX
    rw [hX]
    clear hX c2c c3c f2c f3c hE0 hEX h5X
    go_wp2
    have hE2 := set_cellsN 1 (z := .slice A1 (n - s.next) cp1) (set_cellsN 0 (z := .int .i64 s.next) HEX.out rfl) rfl
    have hbg := h2.2
    have hwc : Below w.heap.size w wc := HWV.out.trans (HB5.out.mono hVs)
    have hRX : (Kd.int .u8).R 5 X V.heap.size (fun _ => True) (.slice A1 (n - s.next) cp1) (nextB s) := by
      rw [← HX.out]; exact Kd.R_set (Kd.R_set HR5.out H1C.out u8_E 2 _) (set_cellsN 2 H1C.out rfl) u8_E 3 _
    have hLX : (Kd.int .u8).R 5 X base ok (.slice A s.l.length c) s.l := by
      rw [← HX.out]; exact Kd.R_set (Kd.R_set (Kd.R_below H3.out hwc) H1C.out u8_E 2 _) (set_cellsN 2 H1C.out rfl) u8_E 3 _
    have hgx : X.heap[g]? = some (.cells #[.slice A s.l.length c, .int .i64 s.base, .int .i64 n, .int .i64 ((max s.far n : Nat) : Int), .int .i64 s.limit] 68 (0, 0)) := by
      rw [← HX.out]; exact set_cellsN 3 (set_cellsN 2 H1C.out rfl) rfl
    have hOX : Off ok w X := by
      rw [← HX.out]; exact (Off.below hwc).trans ((Off.set wc (p := ⟨g, 2, none⟩) h2.1 _).trans (Off.set _ (p := ⟨g, 3, none⟩) h2.1 _))
    have hBX : Below base w X := by
      rw [← HX.out]; exact ((hwc.mono (by omega)).setCell (p := ⟨g, 2, none⟩) hbg _).setCell (p := ⟨g, 3, none⟩) hbg _
    have r0 := cell_cellsN hE2 0 (by simp)
    have r1 := cell_cellsN hE2 1 (by simp)
    refine bodyPost_ret (v := .tuple #[.agg #[.int .i64 s.next, .slice A1 (n - s.next) cp1], .bool true]) ?_ rfl ⟨_, rfl, ?_, ⟨.slice A s.l.length c, ?_, h2, ?_, HF.out⟩, ?_, ?_⟩
    · simp [results, Try.f17, Try.results17, go_sem, r0, r1]
    · exact Kd.R_lower (Kd.R_set (Kd.R_set hRX HEX.out part_E 0 _) (set_cellsN 0 HEX.out rfl) part_E 1 _) (by omega)
    · rw [Below.heap_setCell _ _ _ _ (show g ≠ w.heap.size by omega), Below.heap_setCell _ _ _ _ (show g ≠ w.heap.size by omega), hgx]
      unfold nextS
      rw [hne]
    · exact Kd.R_set (Kd.R_set hLX HEX.out part_E 0 _) (set_cellsN 0 HEX.out rfl) part_E 1 _
    · exact Off.later (Off.later hOX (Nat.le_refl _) _) (Nat.le_refl _) _
    · exact (hBX.setCell (p := ⟨w.heap.size, 0, none⟩) (by show base ≤ w.heap.size; omega) _).setCell (p := ⟨w.heap.size, 1, none⟩) (by show base ≤ w.heap.size; omega) _
end Go.Proofs.Ytgkcncdanhkkoaa.Fw
