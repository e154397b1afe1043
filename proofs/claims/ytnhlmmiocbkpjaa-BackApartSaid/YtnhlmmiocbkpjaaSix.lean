/-
  BackTimes: the walk of the law: whatever the plan: it returns true, and nothing that lay has turned.
-/
import Derived.RangeFuncNested
import Derived.RangeFuncBound
import Derived.RangeFuncCalls
import Derived.RangeFuncLeaves
import Derived.Shelf.Abstract
import Derived.Shelf.RegionOpen
import Derived.WalkKit
import Derived.OwnWalkIn
import Derived.TacticsInMore
import Derived.LoopNIn
import Derived.LoopIn
import Derived.Deep.QuietTactic
import Derived.BigQuiet
import Derived.Lib.Hide
import Derived.Outline
import Derived.Test.YtnhlmmiocbkpjaaSeq
namespace Go.Proofs.Ytnhlmmiocbkpjaa.Tm
open Go.RowKit Go.Shelf Go.Proofs.Ytnhlmmiocbkpjaa.PBackTimes Go.Proofs.YtnhlmmiocbkpjaaW.PrintWords Go.Proofs.YtnhlmmiocbkpjaaW.PrintLast Go.Proofs.YtnhlmmiocbkpjaaW.PrintMore

attribute [local go_sem] Oper.semAt_some

theorem bcell {W w1 : World} (hb : Below W.heap.size W w1) : (∀ b o, b < W.heap.size → w1.cell? ⟨b, o, none⟩ = W.cell? ⟨b, o, none⟩) ∧ (∀ b o, b < W.heap.size → w1.frozen? ⟨b, o, none⟩ = W.frozen? ⟨b, o, none⟩) :=
  ⟨fun b o h => hb.cell (p := ⟨b, o, none⟩) h, fun b o h => hb.frozen (p := ⟨b, o, none⟩) h⟩

theorem maker (f m s : Int) (w : World) : Calls Try.prog 14 #[.int .i64 f, .int .i64 m, .int .i64 s] w fun e w' => e = .returned (.func (.func 17) #[] #[.pointer (some ⟨w.heap.size, 0, none⟩), .pointer (some ⟨w.heap.size + 1, 0, none⟩), .pointer (some ⟨w.heap.size + 2, 0, none⟩)]) ∧ w' = ((w.alloc (.cells #[.int .i64 f] 3)).alloc (.cells #[.int .i64 m] 3)).alloc (.cells #[.int .i64 s] 3) := by
  go_enter Try.func14, Try.ntmps14
  go_wp2
  go_ret
  exact ⟨rfl, rfl⟩

theorem rt_any (f m s q : Int) (q0 : 0 ≤ q) (q1 : q ≤ 1000) : ∃ c k, embrasureref07_Times.f k f m s q = some ((List.range c).map (atT f m s)) ∧ (c : Int) ≤ q ∧ (Tk f m s → (∀ j, j < c → atT f m s j ≤ 1099511627776) ∧ ((c : Int) = q ∨ 1099511627776 < atT f m s c)) ∧ (¬ Tk f m s → c = 0) := by
  obtain ⟨n, rfl⟩ := Int.eq_ofNat_of_zero_le q0
  by_cases h : Tk f m s
  · obtain ⟨c, h1, h2, h3, h4⟩ := rtimes_yes h n (by omega)
    obtain ⟨k, hk⟩ := h4.rounds
    exact ⟨c, k, hk, by omega, fun _ => ⟨h2, by rcases h3 with h3 | h3; exact .inl (by omega); exact .inr h3⟩, fun h' => absurd h h'⟩
  · obtain ⟨k, hk⟩ := (rtimes_no h n).rounds
    exact ⟨0, k, hk, by omega, fun h' => absurd h' h, fun _ => rfl⟩

theorem ref13 (f m s q : Int) (k c : Nat) (w : World) (h : embrasureref07_Times.f k f m s q = some ((List.range c).map (atT f m s))) :
    Calls Try.prog 13 #[.int .i64 f, .int .i64 m, .int .i64 s, .int .i64 q] w fun e w' => ∃ A cp, e = .returned (.slice A c cp) ∧ Kd.R (Kd.int .i64) 3 w' w.heap.size (fun _ => True) (.slice A c cp) ((List.range c).map (atT f m s)) ∧ Below w.heap.size w w' :=
  (embrasureref07_Times.calls k f m s q _ w h).mono fun e w' ⟨v, he, hr, hb⟩ => by
    obtain ⟨A, cp, rfl, _, _⟩ := Kd.R_reads hr
    rw [List.length_map, List.length_range] at he hr
    exact ⟨A, cp, he, hr, hb⟩

/-- Between two rounds: what has come is as it must be; the boxes. -/
def Cells6 (N0 N1 N2 : Nat) (A : Option Addr) (c cp : Nat) (q : Int) (w w2 : World) (pre : List (Int × Int)) (W : World) : Prop :=
  Boxed W (N0 + 1) 4 (.bool false) ∧ Boxed W N1 3 (.int .i64 q) ∧ Boxed W N2 31 (.slice A c cp) ∧ Boxed W (N2 + 1) 3 (.int .i64 pre.length) ∧ KeepIn (N1 + 1) N2 w2 W ∧ Below N0 w W
theorem cells6_own (B N0 N1 N2 : Nat) (A : Option Addr) (c cp : Nat) (q : Int) (w w2 : World) (h0 : N0 ≤ B) (h2 : N2 ≤ B) (hw : N0 ≤ w.heap.size) : OwnFrom B (Cells6 N0 N1 N2 A c cp q w w2) := by
  rintro s X Y row ⟨b1, b2, b3, b4, hk, hb⟩ hg hr
  have hr' : ∀ r, row = some r → ∃ o : Obj, X.heap[r]? = some o ∧ o.isCells = false := fun r e => (hr r e).2
  refine ⟨boxed_own _ _ (fun _ : Unit => _) () X Y row b1 hg hr', boxed_own _ _ (fun _ : Unit => _) () X Y row b2 hg hr', boxed_own _ _ (fun _ : Unit => _) () X Y row b3 hg hr', boxed_own _ _ (fun _ : Unit => _) () X Y row b4 hg hr', ?_, ?_⟩
  · exact ⟨Nat.le_trans hk.1 hg.size, fun b h1 h2' => (hg.block b (by have := b3.lt; omega) (fun e => by have := (hr b e.symm).1; omega)).trans (hk.2 b h1 h2')⟩
  · exact hb.grown hg (Nat.le_trans hw hb.size) (fun k e => by have := (hr k e).1; omega)
def I6 (N0 N1 N2 : Nat) (A : Option Addr) (c cp : Nat) (f m s q : Int) (w w2 : World) (pre : List (Int × Int)) (W : World) : Prop :=
  (pre = tl f m s pre.length ∧ pre.length ≤ c ∧ (pre.length : Int) < q) ∧ Cells6 N0 N1 N2 A c cp q w w2 pre W
def X6 (id N0 N1 N2 : Nat) (A : Option Addr) (c cp : Nat) (f m s q : Int) (w w2 : World) (jmp : Code) (pre : List (Int × Int)) (W : World) : Prop :=
  (jmp = .ret ∧ ¬ (pre = tl f m s pre.length ∧ pre.length ≤ c) ∧ (pre.length : Int) ≤ q ∧ pre.length ≤ c + 1 ∧ Below N0 w W) ∨
  (jmp = .exit id ∧ pre = tl f m s pre.length ∧ pre.length ≤ c ∧ (pre.length : Int) = q ∧ Cells6 N0 N1 N2 A c cp q w w2 pre W)

theorem tl_snoc_iff {f m s : Int} {pre : List (Int × Int)} {x : Int × Int} {j : Nat} (hp : pre = tl f m s j) : (pre ++ [x] = tl f m s (pre ++ [x]).length) ↔ x = el f m s j := by
  subst hp
  rw [List.length_append, tl_length, List.length_singleton, tl_succ]
  constructor
  · intro h
    have := (List.append_inj' h rfl).2
    simpa using this
  · intro h; rw [h]
theorem cells6_step {N0 N1 N2 : Nat} {A : Option Addr} {c cp : Nat} {q : Int} {w w2 : World} {pre : List (Int × Int)} {W : World} (x : Int × Int) (h : Cells6 N0 N1 N2 A c cp q w w2 pre W) (h1 : N0 + 1 < N1) (h2 : N1 < N2) :
    Cells6 N0 N1 N2 A c cp q w w2 (pre ++ [x]) (W.setCell ⟨N2 + 1, 0, none⟩ (.int .i64 ((pre.length : Int) + 1))) := by
  obtain ⟨b1, b2, b3, b4, hk, hb⟩ := h
  refine ⟨b1.other (by omega) _, b2.other (by omega) _, b3.other (by omega) _, ?_, hk.trans (KeepIn.setCell (p := ⟨N2 + 1, 0, none⟩) (.inr (by simp)) _), hb.setCell (p := ⟨N2 + 1, 0, none⟩) (by show N0 ≤ N2 + 1; omega) _⟩
  rw [List.length_append, List.length_singleton]
  exact b4.set _

set_option maxRecDepth 100000 in
set_option maxHeartbeats 2000000 in
theorem law6 (f m s many : Int) (w : World) (hm0 : 0 ≤ many) (hm1 : many ≤ 255) :
    Calls Try.prog 6 #[.agg #[.int .i64 f, .int .i64 m], .int .i64 s, .int .u8 many] w fun e w' => e = .returned (.bool true) ∧ Below w.heap.size w w' := by
  obtain ⟨ka, hka⟩ := awake_yes.rounds
  have Haw := Lib.hid hka
  clear hka
  obtain ⟨c, kr, hkr, hcq, hyes, hno⟩ := rt_any f m s (1 + many % 100) (by omega) (by omega)
  have Hkr := Lib.hid hkr
  have Hyes := Lib.hid hyes
  have Hno := Lib.hid hno
  clear hkr hyes hno
  refine (callsIn_wide (n := 8)).1 ?_
  refine callsIn_of_wp_marks Try.func6 rfl trivial ?_ rfl
  simp only [Try.ntmps6, List.size_toArray, List.length_cons, List.length_nil, Nat.reduceAdd, Nat.reduceSub, Array.replicate_succ, Array.replicate_zero, List.push_toArray, List.append_toArray, List.nil_append, List.cons_append]
  gi_wp2_with (refine ⟨trivial, ?_⟩; gi_at_call 8; refine (callsIn_wide.2 (embrasurelaw07_awake.calls _ _ _ Haw.out)).mono ?_; rintro e w1 ⟨rfl, hb1⟩; obtain ⟨hc1, hf1⟩ := bcell hb1; have hz1 := hb1.size; simp only [World.size_alloc] at hz1)
  refine ⟨trivial, ?_⟩
  refine (callsIn_wide.2 (ref13 f m s (1 + many % 100) kr c _ Hkr.out)).mono ?_
  rintro e w2 ⟨A, cp, rfl, hR, hb2⟩
  obtain ⟨hc2, hf2⟩ := bcell hb2
  have hz2 := hb2.size
  simp only [World.size_alloc] at hz2
  gi_wp2_with (refine ⟨trivial, ?_⟩; gi_at_call 14; refine (callsIn_wide.2 (maker f m s _)).mono ?_; rintro e w3 ⟨rfl, rfl⟩)
  obtain ⟨W0, hW0⟩ : ∃ W0, (((((w2.alloc (.cells #[.slice A c cp] 31)).alloc (.cells #[.int .i64 0] 3)).alloc (.cells #[.int .i64 f] 3)).alloc (.cells #[.int .i64 m] 3)).alloc (.cells #[.int .i64 s] 3)) = W0 := ⟨_, rfl⟩
  rw [hW0]
  have hs0 : W0.heap.size = w2.heap.size + 5 := by rw [← hW0]; simp
  obtain ⟨V1, hV1⟩ : ∃ V1, (w2.alloc (.cells #[.slice A c cp] 31)).alloc (.cells #[.int .i64 0] 3) = V1 := ⟨_, rfl⟩
  have hv1 : V1.heap.size = w2.heap.size + 2 := by rw [← hV1]; simp
  have B4 : Boxed W0 (w2.heap.size + 1) 3 (.int .i64 0) := by
    rw [← hW0]
    have := Boxed.new (w2.alloc (.cells #[.slice A c cp] 31)) 3 (.int .i64 0)
    rw [World.size_alloc] at this
    exact ((this.alloc _).alloc _).alloc _
  have B3 : Boxed W0 w2.heap.size 31 (.slice A c cp) := by
    rw [← hW0]
    exact ((((Boxed.new w2 31 (.slice A c cp)).alloc _).alloc _).alloc _).alloc _
  have q1 : Boxed W0 (w2.heap.size + 2) 3 (.int .i64 f) := by
    rw [← hW0, hV1, ← hv1]
    exact ((Boxed.new V1 3 (.int .i64 f)).alloc _).alloc _
  have q2 : Boxed W0 (w2.heap.size + 3) 3 (.int .i64 m) := by
    rw [← hW0, hV1]
    have := Boxed.new (V1.alloc (.cells #[.int .i64 f] 3)) 3 (.int .i64 m)
    rw [World.size_alloc, hv1] at this
    exact this.alloc _
  have q3 : Boxed W0 (w2.heap.size + 4) 3 (.int .i64 s) := by
    rw [← hW0, hV1]
    have := Boxed.new ((V1.alloc (.cells #[.int .i64 f] 3)).alloc (.cells #[.int .i64 m] 3)) 3 (.int .i64 s)
    rw [World.size_alloc, World.size_alloc, hv1] at this
    exact this
  have R1 : Boxed w1 (w.heap.size + 1) 4 (.bool false) := (hb1.block _ (by simp)).trans (by have := Boxed.new (w.alloc (.cells #[.int .i64 f, .int .i64 m] 30)) 4 (.bool false); rwa [World.size_alloc] at this)
  have R2 : Boxed w2 (w.heap.size + 1) 4 (.bool false) := (hb2.block _ (by simp; omega)).trans (R1.alloc _)
  have K2 : Boxed w2 w1.heap.size 3 (.int .i64 (1 + many % 100)) := (hb2.block _ (by simp)).trans (Boxed.new w1 3 (.int .i64 (1 + many % 100)))
  have B1 : Boxed W0 (w.heap.size + 1) 4 (.bool false) := by
    rw [← hW0]
    exact ((((R2.alloc _).alloc _).alloc _).alloc _).alloc _
  have B2 : Boxed W0 w1.heap.size 3 (.int .i64 (1 + many % 100)) := by
    rw [← hW0]
    exact ((((K2.alloc _).alloc _).alloc _).alloc _).alloc _
  have hb20 : Below w2.heap.size w2 W0 := by
    rw [← hW0]
    exact (((((Below.refl _ w2).alloc (Nat.le_refl _) _).alloc (by simp) _).alloc (by simp; omega) _).alloc (by simp; omega) _).alloc (by simp; omega) _
  have hkp0 : KeepIn (w1.heap.size + 1) w2.heap.size w2 W0 := KeepIn.below hb20 (Nat.le_refl _)
  have hbw : Below w.heap.size w W0 :=
    ((((((Below.refl _ w).alloc (Nat.le_refl _) _).alloc (by simp) _).trans (hb1.mono (by simp; omega))).alloc (by omega) _).trans (hb2.mono (by simp; omega))).trans (hb20.mono (by omega))
  refine wpIn_rangeFunc_ownF rfl (by omega) (gf := 17) (lb := #[.pointer (some ⟨w2.heap.size + 2, 0, none⟩), .pointer (some ⟨w2.heap.size + 3, 0, none⟩), .pointer (some ⟨w2.heap.size + 4, 0, none⟩)]) rfl trivial (enters_of Try.func17 (by kernel_rfl) rfl)
    (times_stops 7 (by omega) (w2.heap.size + 2) f m s W0 (by omega) q1.cell q2.cell q3.cell)
    KeepIn.trans (fun W l o o' hl h _ _ => KeepIn.put W l o o' (by omega) h) (Below.refl _ _) (fun _ => rfl)
    (I6 w.heap.size w1.heap.size w2.heap.size A c cp f m s (1 + many % 100) w w2) (X6 0 w.heap.size w1.heap.size w2.heap.size A c cp f m s (1 + many % 100) w w2)
    ?hI ?hIx ?h0 ?a1 ?assign ?body ?done ?stop
  case assign =>
    intro l x W K hK
    gi_wp2
    exact hK
  case body =>
    rintro l pre x W ⟨⟨hp, hpc, hpq⟩, b1, b2, b3, b4, hkp, hbl⟩ _
    have Hp := Lib.hid hp
    clear hp
    obtain ⟨j, hj⟩ : ∃ j, pre.length = j := ⟨_, rfl⟩
    rw [hj] at hpc hpq b4 Hp
    have Hj := Lib.hid hj
    clear hj
    have c1 := b1.cell
    have c2 := b2.cell
    have c3 := b3.cell
    have c4 := b4.cell
    have f1 := b1.frozen
    have f4 := b4.frozen
    have Ql : Hid (pre.length < 2000000000000) := ‹_›
    clear ‹pre.length < 2000000000000›
    obtain ⟨x1, x2⟩ := x
    by_cases hjc : j < c
    · have HC : Kd.C (Kd.int .i64) W A ((List.range c).map (atT f m s)).length ((List.range c).map (atT f m s)) := by
        obtain ⟨A', c', e1, _, e3⟩ := Kd.R_reads (Kd.R_step (w1 := W) (Kd.R_bound hR) (fun k hk hlt => hkp.2 k (by have := hk.2.1; simp at this; omega) hk.2.2.1))
        rw [List.length_map, List.length_range] at e1
        cases e1
        rw [List.length_map, List.length_range] at e3 ⊢
        exact e3
      obtain ⟨ad, e, hx⟩ := Kd.at_int HC (j : Int) (by omega) (by simp; omega)
      have hrd : rd ((List.range c).map (atT f m s)) (j : Int) = atT f m s j := by simp [rd, hjc]
      rw [hrd, Int.toNat_natCast] at hx
      cases e
      clear HC hrd
      by_cases h1 : x1 = j
      · by_cases h2 : x2 = atT f m s j
        · by_cases h3 : (j : Int) + 1 = 1 + many % 100
          · have h1b : (x1 != (j : Int)) = false := by simpa using h1
            have h2b : (x2 != atT f m s j) = false := by simpa using h2
            have h3b : ((j : Int) + 1 == 1 + many % 100) = true := by simpa using h3
            have Hel := Lib.hid (show (x1, x2) = el f m s j by unfold el; rw [h1, h2])
            clear h1 h2 h3
            gi_wp2
            have cs := cells6_step (x1, x2) (pre := pre) (A := some ad) ⟨b1, b2, b3, by rw [Hj.out]; exact b4, hkp, hbl⟩ (by omega) (by omega)
            rw [Hj.out] at cs
            refine ⟨KeepsOthers.setCell _ _ _, .inr ⟨rfl, (tl_snoc_iff Hp.out).2 Hel.out, ?_, ?_, cs⟩⟩
            · rw [List.length_append, Hj.out]; simp; omega
            · rw [List.length_append, Hj.out]; simpa using h3b
          · have h1b : (x1 != (j : Int)) = false := by simpa using h1
            have h2b : (x2 != atT f m s j) = false := by simpa using h2
            have h3b : ((j : Int) + 1 == 1 + many % 100) = false := by simpa using h3
            have h3c : (j : Int) + 1 < 1 + many % 100 := by omega
            have Hel := Lib.hid (show (x1, x2) = el f m s j by unfold el; rw [h1, h2])
            clear h1 h2 h3
            gi_wp2
            have cs := cells6_step (x1, x2) (pre := pre) (A := some ad) ⟨b1, b2, b3, by rw [Hj.out]; exact b4, hkp, hbl⟩ (by omega) (by omega)
            rw [Hj.out] at cs
            refine ⟨KeepsOthers.setCell _ _ _, KeepIn.setCell (.inl (by simp)) _, ⟨(tl_snoc_iff Hp.out).2 Hel.out, ?_, ?_⟩, cs⟩
            · rw [List.length_append, Hj.out]; simp; omega
            · rw [List.length_append, Hj.out]; simpa using h3c
        · have h2b : (x2 != atT f m s j) = true := by simpa using h2
          gi_wp2
          exact ⟨KeepsOthers.setCell _ _ _, .inl ⟨rfl, fun h => h2 (congrArg Prod.snd ((tl_snoc_iff Hp.out).1 h.1)), by rw [List.length_append, Hj.out]; simp; omega, by rw [List.length_append, Hj.out]; simp; omega, hbl.setCell (p := ⟨w.heap.size + 1, 0, none⟩) (by simp) _⟩⟩
      · have h1b : (x1 != (j : Int)) = true := by simpa using h1
        gi_wp2
        exact ⟨KeepsOthers.setCell _ _ _, .inl ⟨rfl, fun h => h1 (congrArg Prod.fst ((tl_snoc_iff Hp.out).1 h.1)), by rw [List.length_append, Hj.out]; simp; omega, by rw [List.length_append, Hj.out]; simp; omega, hbl.setCell (p := ⟨w.heap.size + 1, 0, none⟩) (by simp) _⟩⟩
    · have hjc' : decide ((c : Int) ≤ j) = true := decide_eq_true (by omega)
      gi_wp2
      exact ⟨KeepsOthers.setCell _ _ _, .inl ⟨rfl, fun h => by have := h.2; rw [List.length_append, Hj.out] at this; simp at this; omega, by rw [List.length_append, Hj.out]; simp; omega, by rw [List.length_append, Hj.out]; simp; omega, hbl.setCell (p := ⟨w.heap.size + 1, 0, none⟩) (by simp) _⟩⟩
  case hI =>
    intro s X Y row hs hg hr
    exact ⟨hs.1, cells6_own W0.heap.size w.heap.size w1.heap.size w2.heap.size A c cp _ w w2 (by omega) (by omega) (Nat.le_refl _) s X Y row hs.2 hg hr⟩
  case hIx =>
    rintro cc s X Y row (⟨e1, e2, e3, e4, hb⟩ | ⟨e1, e2, e3, e4, hs⟩) hg hr
    · exact .inl ⟨e1, e2, e3, e4, hb.grown hg hb.size (fun k e => by have := (hr k e).1; omega)⟩
    · exact .inr ⟨e1, e2, e3, e4, cells6_own W0.heap.size w.heap.size w1.heap.size w2.heap.size A c cp _ w w2 (by omega) (by omega) (Nat.le_refl _) s X Y row hs hg hr⟩
  case h0 => exact ⟨⟨rfl, Nat.zero_le _, by show (0 : Int) < 1 + many % 100; omega⟩, B1, B2, B3, B4, hkp0, hbw⟩
  case done =>
    rintro D xs W hD hS ⟨⟨hp, hpc, hpq⟩, b1, b2, b3, b4, hkp, hbl⟩ hK
    have hjc : xs.length = c := by
      rcases hS with ⟨hT, k, rfl, hbig⟩ | ⟨hT, rfl⟩
      · rw [tl_length] at hpc ⊢
        rcases Nat.lt_or_ge k c with hlt | hge
        · have := (Hyes.out hT).1 k hlt; omega
        · omega
      · rw [Hno.out hT]; rfl
    rw [hjc] at b4
    clear hjc hp hpc hpq hS
    have c1 := b1.cell
    have c3 := b3.cell
    have c4 := b4.cell
    have f1 := b1.frozen
    gi_wp2
    have hK' := (KeepsOthers.setCell W ⟨w.heap.size + 1, 0, none⟩ (.bool true)).same D _ hK rfl
    refine ⟨by simp, .inl ⟨_, _, rfl, run_takeDeferred hK', ?_⟩⟩
    have hc5 := cell_kept (World.cell?_setCell_same' W ⟨w.heap.size + 1, 0, none⟩ (.bool true) (by rw [c1]; rfl)) (grownBy_putObj' _ D (.deferred none)) (fun r e => by cases e; exact ⟨_, hK', rfl⟩)
    refine ⟨.bool true, ?_, rfl, (hbl.setCell (p := ⟨w.heap.size + 1, 0, none⟩) (by simp) _).trans (belowK_b (w := w) (Nat.le_refl _) _ D _ _ (by omega) hK' rfl rfl)⟩
    simp [results, Try.f6, go_sem, hc5]
  case stop =>
    rintro D jmp pre W hD ⟨hT, k, hk, hle⟩ hX hK
    rcases hX with ⟨rfl, hbad, hq, hcc, hb⟩ | ⟨rfl, hp, hpc, hpq, b1, b2, b3, b4, hkp, hbl⟩
    · exfalso
      subst hk
      rw [tl_length] at hbad hq hcc
      have hkc : k = c + 1 := by
        have : ¬ k ≤ c := fun h => hbad ⟨rfl, h⟩
        omega
      subst hkc
      have h1 := hle c (by omega)
      rcases (Hyes.out hT).2 with h2 | h2
      · omega
      · omega
    · have hjc : pre.length = c := by omega
      rw [hjc] at b4
      clear hjc hp hpc hpq hk hle
      have c1 := b1.cell
      have c3 := b3.cell
      have c4 := b4.cell
      have f1 := b1.frozen
      gi_wp2
      have hK' := (KeepsOthers.setCell W ⟨w.heap.size + 1, 0, none⟩ (.bool true)).same D _ hK rfl
      refine ⟨by simp, .inl ⟨_, _, rfl, run_takeDeferred hK', ?_⟩⟩
      have hc5 := cell_kept (World.cell?_setCell_same' W ⟨w.heap.size + 1, 0, none⟩ (.bool true) (by rw [c1]; rfl)) (grownBy_putObj' _ D (.deferred none)) (fun r e => by cases e; exact ⟨_, hK', rfl⟩)
      refine ⟨.bool true, ?_, rfl, (hbl.setCell (p := ⟨w.heap.size + 1, 0, none⟩) (by simp) _).trans (belowK_b (w := w) (Nat.le_refl _) _ D _ _ (by omega) hK' rfl rfl)⟩
      simp [results, Try.f6, go_sem, hc5]

theorem law6_row (f m s many : Int) (w : World) (_ : (Lit.int .i64 f).wf = true) (_ : (Lit.int .i64 m).wf = true) (_ : (Lit.int .i64 s).wf = true) (h : (Lit.int .u8 many).wf = true) :
    Calls Try.prog 6 #[.agg #[.int .i64 f, .int .i64 m], .int .i64 s, .int .u8 many] w fun e w' => e = .returned (.bool true) ∧ Below w.heap.size w w' :=
  law6 f m s many w (bounds_u8 h).1 (bounds_u8 h).2

end Go.Proofs.Ytnhlmmiocbkpjaa.Tm
