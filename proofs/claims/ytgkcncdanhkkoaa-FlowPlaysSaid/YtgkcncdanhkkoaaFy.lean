/-
  The reference's sender (embrasureref16.Sender): its functions answer what the program's do and leave the like. Conditions: as for the program's.
-/
import Derived.Test.YtgkcncdanhkkoaaFv
namespace Go.Proofs.Ytgkcncdanhkkoaa.Fw
open Go.RowKit Go.Maps Go.Proofs.Ytgkcncdanhkkoaa.Sp Go.Proofs.YtgkcncdanhkkoaaW.PrintWords Go.Proofs.YtgkcncdanhkkoaaW.PrintLast Go.Proofs.YtgkcncdanhkkoaaW.PrintMore
set_option linter.unusedVariables false
set_option linter.unusedSimpArgs false
def RsAt (base g : Nat) (s : S) (w : World) (ok : Nat → Prop) : Prop :=
  ∃ v, w.heap[g]? = some (.cells #[v, .int .i64 s.base, .int .i64 s.next, .int .i64 s.far, .int .i64 s.limit] 50 (0, 0)) ∧ (ok g ∧ base ≤ g) ∧ (Kd.int .u8).R 5 w base ok v s.l ∧ s.fine
theorem RsAt.step {base g : Nat} {s : S} {w w1 : World} {ok : Nat → Prop} (h : RsAt base g s w ok) (hm : ∀ k, ok k → k < w.heap.size → w1.heap[k]? = w.heap[k]?) : RsAt base g s w1 ok := by
  obtain ⟨v, h1, h2, h3, h4⟩ := h
  exact ⟨v, (hm g h2.1 (Array.getElem?_eq_some_iff.1 h1).1).trans h1, h2, Kd.R_step h3 hm, h4⟩
def rsOb (base g : Nat) (s : S) : Ob := ⟨RsAt base g s, fun h hm => h.step hm⟩
theorem RsAt.mono {base g : Nat} {s : S} {w : World} {ok ok' : Nat → Prop} (h : RsAt base g s w ok) (ho : ∀ k, ok k → ok' k) : RsAt base g s w ok' := by
  obtain ⟨v, h1, h2, h3, h4⟩ := h
  exact ⟨v, h1, ⟨ho _ h2.1, h2.2⟩, Kd.R_mono h3 ho, h4⟩
theorem RsAt.bound {base g : Nat} {s : S} {w : World} {ok : Nat → Prop} (h : RsAt base g s w ok) : RsAt base g s w (fun k => ok k ∧ k < w.heap.size) := by
  obtain ⟨v, h1, h2, h3, h4⟩ := h
  exact ⟨v, h1, ⟨⟨h2.1, (Array.getElem?_eq_some_iff.1 h1).1⟩, h2.2⟩, Kd.R_mono (Kd.R_bound h3) (fun k hk => ⟨hk.1, hk.2.2.1⟩), h4⟩
theorem u8_Es (q : Nat) (hq : q ∈ (5 : Nat) :: (Kd.int .u8).E) : q ≠ 50 := by
  have h : (Kd.int .u8).E = [] := rfl
  rw [h, List.mem_singleton] at hq
  rw [hq]
  decide
/-- So many bytes more. -/
def wroteS (s : S) (l : List Int) (i : Nat) : S := { s with l := s.l ++ l.take i }
theorem wrote_fine {s : S} {l : List Int} {i : Nat} (h : s.fine) (hl : ∀ b ∈ l, 0 ≤ b ∧ b ≤ 255) (hi : s.l.length + i ≤ 1048576) : (wroteS s l i).fine := by
  obtain ⟨b1, b2, b3, b4, b5, b6⟩ := h
  unfold S.fine wroteS
  dsimp only
  rw [List.length_append, List.length_take]
  refine ⟨b1, b2, by omega, by omega, b5, fun b hb => ?_⟩
  rcases List.mem_append.1 hb with hb | hb
  · exact b6 b hb
  · exact hl b (List.mem_of_mem_take hb)
set_option maxRecDepth 100000 in
set_option maxHeartbeats 2000000 in
theorem rs_write (base g : Nat) (s : S) (w : World) (ok : Nat → Prop) (A : Option Addr) (c : Nat) (l : List Int) (h : RsAt base g s w ok) (hfr : ∀ k, w.heap.size ≤ k → ok k) (hbs : base ≤ w.heap.size)
    (hr : ∀ V : World, Below base w V → (Kd.int .u8).C V A l.length l) (hc : l.length ≤ c) (hl : ∀ b ∈ l, 0 ≤ b ∧ b ≤ 255) (hll : l.length ≤ 1000000000) :
    Calls Try.prog 21 #[.pointer (some ⟨g, 0, none⟩), .slice A l.length c] w fun e w' => e = .returned (.int .i64 (writeN s l)) ∧ RsAt base g (writeS s l) w' ok ∧ Off ok w w' ∧ Below base w w' := by
  have HR := Lib.hid hr
  have HL := Lib.hid hl
  have HFR := Lib.hid hfr
  have H0 := Lib.hid h
  have hsl : s.l.length ≤ 1048576 := by obtain ⟨v, _, _, _, h4⟩ := h; exact h4.2.2.2.1
  clear hr hl hfr h
  go_enter Try.func21, Try.ntmps21
  go_wp2
  go_loopg [5] (l.length : Nat) (fun kq v5 wr => ∃ i : Nat, v5 = .int .i64 i ∧ i + kq = l.length ∧ s.l.length + i ≤ 1048576 ∧ Hid (RsAt base g (wroteS s l i) wr ok) ∧ Hid (Off ok w wr) ∧ Hid (Below base w wr))
  case atStart => exact ⟨0, rfl, by omega, by omega, Lib.hid (by unfold wroteS; rw [List.take_zero, List.append_nil]; exact H0.out), Lib.hid (Off.refl _ _), Lib.hid (Below.refl _ _)⟩
  case round =>
    obtain ⟨i, rfl, hik, hi2, HS, HO, HB⟩ := hrel
    obtain ⟨v, h1, h2, h3, h4⟩ := HS.out
    obtain ⟨Av, cv, hv, hcv, _⟩ := Kd.R_reads h3
    have hwl : (wroteS s l i).l.length = s.l.length + i := by unfold wroteS; rw [List.length_append, List.length_take]; omega
    obtain ⟨m, hm⟩ : ∃ m, s.l.length + i = m := ⟨_, rfl⟩
    rw [hwl, hm] at hv hcv
    subst hv
    have c0 := cell_cellsN h1 0 (by simp)
    dsimp only [List.getElem_toArray, List.getElem_cons_zero, List.getElem_cons_succ] at c0
    by_cases hlt : i < l.length
    · have b0 : decide ((i : Int) < (l.length : Int)) = true := decide_eq_true (by omega)
      have b1 : (i : Int) < (l.length : Int) := by omega
      by_cases hml : m < 1048576
      · have b2 : decide ((m : Int) < 1048576) = true := decide_eq_true (by omega)
        obtain ⟨ad, rfl, hcell⟩ := cell_of_C (HR.out wr HB.out) i hlt rfl
        obtain ⟨x, hx⟩ : ∃ x, l[i] = x := ⟨_, rfl⟩
        rw [hx] at hcell
        have HX := Lib.hid hx
        have H1 := Lib.hid h1
        have H3 := Lib.hid (Kd.R_drew h3)
        have HWL := Lib.hid hwl
        have HM := Lib.hid hm
        have hgl : g < wr.heap.size := (Array.getElem?_eq_some_iff.1 h1).1
        have hne := Lib.hid (Kd.R_ne h3 h1 (by decide))
        have hws := HO.out.1
        have HBd := Lib.hid (show Below base w wr.drew from HB.out.drew)
        clear h1 h3 h4 hx hwl hm
        go_upto_region 3 with fail
        go_cut [] (fun wx => ∃ v5 w5, wx = w5.setCell ⟨g, 0, none⟩ v5 ∧ (Kd.int .u8).R 5 w5 base ok v5 ((wroteS s l i).l ++ [x]) ∧ Below base w w5 ∧ wr.drew.grownBy w5 (Value.slice Av m cv).ownBlock)
        case first =>
          go_region_law (refine Kd.R_append_step (Kd.int .u8) (w0 := w) base (by rfl) (.tmp 22) (.tmp 27) 22 5 (.int .u8 0) 1 rfl Try.underlying22 info8 rfl (by decide) (by decide) (.slice Av m cv) (wroteS s l i).l x [.int .u8 x] ok (fun _ => False) (by simp [Act.eval]) (by simp [Act.eval]) rfl (fun _ hk => hk.elim) (fun k hk => HFR.out k (by have : wr.drew.heap.size = wr.heap.size := rfl; omega)) H3.out HBd.out (by have : wr.drew.heap.size = wr.heap.size := rfl; omega) (by rw [HWL.out]; omega) ?_; intro v5 w5 ho5 hb5 hg5 hat5; obtain ⟨A5, cp5, hv5, _, _⟩ := Kd.R_reads ho5; obtain ⟨m5, hm5⟩ : ∃ m5, ((wroteS s l i).l ++ [x]).length = m5 := ⟨_, rfl⟩; rw [hm5] at hv5; subst hv5; have h5g := (hg5.block g hgl hne.out).trans H1.out; have c5 := cell_cellsN h5g 0 (by simp); have f5 := frozen_cellsN h5g 0; dsimp only [List.getElem_toArray, List.getElem_cons_zero, List.getElem_cons_succ] at c5; have HO5 := Lib.hid ho5; have HB5 := Lib.hid hb5; have HG5 := Lib.hid hg5; clear ho5 hb5 hg5 hat5 h5g hm5)
          all_goals
            go_wp2_with fail
            go_meet
            case rel => exact ⟨_, w5, rfl, HO5.out, HB5.out, HG5.out⟩
        case rest =>
          obtain ⟨v5, w5, rfl, ho5, hb5, hg5⟩ := hcut
          have h5g := (hg5.block g hgl hne.out).trans H1.out
          have HO5 := Lib.hid ho5
          have HB5 := Lib.hid hb5
          have HG5 := Lib.hid hg5
          have H5 := Lib.hid h5g
          clear ho5 hb5 hg5 h5g
          go_wp2
          go_roundg (gk - 1)
          case measure => omega
          case rel =>
            have hs1 : (wroteS s l i).l ++ [x] = (wroteS s l (i + 1)).l := by
              unfold wroteS
              dsimp only
              rw [List.take_succ_eq_append_getElem hlt, HX.out, List.append_assoc]
            have hm := HM.out
            have hf : (wroteS s l (i + 1)).fine := by
              obtain ⟨_, _, _, _, h4⟩ := H0.out
              exact wrote_fine h4 HL.out (by omega)
            refine ⟨i + 1, by go_num, by omega, by omega, Lib.hid ⟨v5, set_cellsN 0 H5.out rfl, h2, ?_, hf⟩, Lib.hid (HO.out.trans (Off.trans (Off.drew (Off.refl ok wr)) (Off.trans (Off.grown HG5.out (fun k hk => H3.out.1 k hk)) (Off.set w5 (p := ⟨g, 0, none⟩) h2.1 _)))), Lib.hid (HB5.out.setCell (p := ⟨g, 0, none⟩) h2.2 _)⟩
            have h := Kd.R_set HO5.out H5.out u8_Es 0 v5
            rw [hs1] at h
            exact h
      · have b2 : decide ((m : Int) < 1048576) = false := decide_eq_false (by omega)
        have HW := Lib.hid (show writeS s l = wroteS s l i ∧ writeN s l = i by
          have e : writeN s l = i := by unfold writeN; omega
          refine ⟨?_, e⟩
          unfold writeS wroteS
          rw [e])
        clear h1 h3 h4
        go_wp2
        go_ret
        rw [HW.out.1, HW.out.2]
        exact ⟨rfl, HS.out, HO.out, HB.out⟩
    · have b0 : decide ((i : Int) < (l.length : Int)) = false := decide_eq_false (by omega)
      have HW := Lib.hid (show writeS s l = wroteS s l i ∧ writeN s l = i by
        have e : writeN s l = i := by unfold writeN; omega
        refine ⟨?_, e⟩
        unfold writeS wroteS
        rw [e])
      clear h1 h3 h4
      go_wp2
      go_ret
      rw [HW.out.1, HW.out.2]
      exact ⟨rfl, HS.out, HO.out, HB.out⟩
/-! ### Ack -/
theorem rs_ack_no (base g : Nat) (s : S) (w : World) (ok : Nat → Prop) (u d : Int) (h : RsAt base g s w ok) (hb : ackB s u d = true) : Calls Try.prog 23 #[.pointer (some ⟨g, 0, none⟩), .int .i64 u, .int .i64 d] w fun e w' => e = .returned (.bool false) ∧ w' = w := by
  obtain ⟨v, h1, h2, h3, h4⟩ := h
  have c1 := cell_cellsN h1 1 (by simp)
  have c3 := cell_cellsN h1 3 (by simp)
  dsimp only [List.getElem_toArray, List.getElem_cons_zero, List.getElem_cons_succ] at c1 c3
  clear h1 h3 h4
  unfold ackB at hb
  by_cases k1 : u < s.base
  · have b1 : decide (u < (s.base : Int)) = true := decide_eq_true k1
    go_enter Try.func23, Try.ntmps23
    go_wp2
    go_ret
    exact ⟨rfl, rfl⟩
  · have b1 : decide (u < (s.base : Int)) = false := decide_eq_false k1
    by_cases k2 : (s.far : Int) < u
    · have b2 : decide ((s.far : Int) < u) = true := decide_eq_true k2
      go_enter Try.func23, Try.ntmps23
      go_wp2
      go_ret
      exact ⟨rfl, rfl⟩
    · have b2 : decide ((s.far : Int) < u) = false := decide_eq_false k2
      by_cases k3 : d < 0
      · have b3 : decide (d < 0) = true := decide_eq_true k3
        go_enter Try.func23, Try.ntmps23
        go_wp2
        go_ret
        exact ⟨rfl, rfl⟩
      · have b3 : decide (d < 0) = false := decide_eq_false k3
        have b4 : decide (4096 < d) = true := by rw [b1, b2, b3] at hb; simpa using hb
        go_enter Try.func23, Try.ntmps23
        go_wp2
        go_ret
        exact ⟨rfl, rfl⟩
set_option maxRecDepth 100000 in
set_option maxHeartbeats 2000000 in
theorem rs_ack_yes (base g : Nat) (s : S) (w : World) (ok : Nat → Prop) (u d : Nat) (h : RsAt base g s w ok) (hb : ackB s u d = false) : Calls Try.prog 23 #[.pointer (some ⟨g, 0, none⟩), .int .i64 u, .int .i64 d] w fun e w' => e = .returned (.bool true) ∧ RsAt base g (ackS s u d) w' ok ∧ Off ok w w' ∧ Below base w w' := by
  obtain ⟨v, h1, h2, h3, h4⟩ := h
  have h5 := h4
  obtain ⟨b1, b2, b3, b4, b5, b6⟩ := h5
  have c1 := cell_cellsN h1 1 (by simp)
  have c2 := cell_cellsN h1 2 (by simp)
  have c3 := cell_cellsN h1 3 (by simp)
  have c4 := cell_cellsN h1 4 (by simp)
  have f1 := frozen_cellsN h1 1
  have f2 := frozen_cellsN h1 2
  have f4 := frozen_cellsN h1 4
  dsimp only [List.getElem_toArray, List.getElem_cons_zero, List.getElem_cons_succ] at c1 c2 c3 c4
  unfold ackB at hb
  simp only [Bool.or_eq_false_iff] at hb
  obtain ⟨⟨⟨k1, k2⟩, k3⟩, k4⟩ := hb
  have j1 := of_decide_eq_false k1
  have j2 := of_decide_eq_false k2
  have j4 := of_decide_eq_false k4
  have hf : (ackS s u d).fine := by
    unfold S.fine ackS
    dsimp only
    exact ⟨by omega, by omega, b3, b4, by omega, b6⟩
  have e1 : IntKind.i64.wrap ((u : Int) + (d : Int)) = (u : Int) + (d : Int) := i64_of (by omega)
  have H1 := Lib.hid h1
  have H3 := Lib.hid h3
  have H4 := Lib.hid hf
  clear h1 h3 b6 h4 hf
  by_cases kn : s.next < u
  · have n1 : decide ((s.next : Int) < (u : Int)) = true := decide_eq_true (by omega)
    have n1n : decide (s.next < u) = true := decide_eq_true kn
    by_cases kl : s.limit < u + d
    · have n2 : decide ((s.limit : Int) < (u : Int) + (d : Int)) = true := decide_eq_true (by omega)
      have E := Lib.hid (show ackS s u d = { s with base := u, next := u, limit := u + d } by
        unfold ackS
        rw [Nat.max_eq_right (by omega), Nat.max_eq_right (by omega)])
      go_enter Try.func23, Try.ntmps23
      go_wp2
      go_ret
      have q1 := set_cellsN 4 (z := .int .i64 ((u + d : Nat) : Int)) (set_cellsN 2 (z := .int .i64 u) (set_cellsN 1 (z := .int .i64 u) H1.out rfl) rfl) rfl
      have hf := H4.out
      rw [Int.natCast_add] at q1
      rw [E.out] at hf
      rw [E.out]
      exact ⟨rfl, ⟨v, q1, h2, Kd.R_set (Kd.R_set (Kd.R_set H3.out H1.out u8_Es 1 _) (set_cellsN 1 H1.out rfl) u8_Es 2 _) (set_cellsN 2 (set_cellsN 1 H1.out rfl) rfl) u8_Es 4 _, hf⟩, (Off.set w (p := ⟨g, 1, none⟩) h2.1 _).trans ((Off.set _ (p := ⟨g, 2, none⟩) h2.1 _).trans (Off.set _ (p := ⟨g, 4, none⟩) h2.1 _)), (((Below.refl _ _).setCell (p := ⟨g, 1, none⟩) h2.2 _).setCell (p := ⟨g, 2, none⟩) h2.2 _).setCell (p := ⟨g, 4, none⟩) h2.2 _⟩
    · have n2 : decide ((s.limit : Int) < (u : Int) + (d : Int)) = false := decide_eq_false (by omega)
      have E := Lib.hid (show ackS s u d = { s with base := u, next := u } by
        unfold ackS
        rw [Nat.max_eq_right (by omega), Nat.max_eq_left (by omega)])
      go_enter Try.func23, Try.ntmps23
      go_wp2
      go_ret
      have hf := H4.out
      rw [E.out] at hf
      rw [E.out]
      exact ⟨rfl, ⟨v, set_cellsN 2 (set_cellsN 1 H1.out rfl) rfl, h2, Kd.R_set (Kd.R_set H3.out H1.out u8_Es 1 _) (set_cellsN 1 H1.out rfl) u8_Es 2 _, hf⟩, (Off.set w (p := ⟨g, 1, none⟩) h2.1 _).trans (Off.set _ (p := ⟨g, 2, none⟩) h2.1 _), ((Below.refl _ _).setCell (p := ⟨g, 1, none⟩) h2.2 _).setCell (p := ⟨g, 2, none⟩) h2.2 _⟩
  · have n1 : decide ((s.next : Int) < (u : Int)) = false := decide_eq_false (by omega)
    have n1n : decide (s.next < u) = false := decide_eq_false kn
    by_cases kl : s.limit < u + d
    · have n2 : decide ((s.limit : Int) < (u : Int) + (d : Int)) = true := decide_eq_true (by omega)
      have E := Lib.hid (show ackS s u d = { s with base := u, limit := u + d } by
        unfold ackS
        rw [Nat.max_eq_left (by omega), Nat.max_eq_right (by omega)])
      go_enter Try.func23, Try.ntmps23
      go_wp2
      go_ret
      have q1 := set_cellsN 4 (z := .int .i64 ((u + d : Nat) : Int)) (set_cellsN 1 (z := .int .i64 u) H1.out rfl) rfl
      have hf := H4.out
      rw [Int.natCast_add] at q1
      rw [E.out] at hf
      rw [E.out]
      exact ⟨rfl, ⟨v, q1, h2, Kd.R_set (Kd.R_set H3.out H1.out u8_Es 1 _) (set_cellsN 1 H1.out rfl) u8_Es 4 _, hf⟩, (Off.set w (p := ⟨g, 1, none⟩) h2.1 _).trans (Off.set _ (p := ⟨g, 4, none⟩) h2.1 _), ((Below.refl _ _).setCell (p := ⟨g, 1, none⟩) h2.2 _).setCell (p := ⟨g, 4, none⟩) h2.2 _⟩
    · have n2 : decide ((s.limit : Int) < (u : Int) + (d : Int)) = false := decide_eq_false (by omega)
      have E := Lib.hid (show ackS s u d = { s with base := u } by
        unfold ackS
        rw [Nat.max_eq_left (by omega), Nat.max_eq_left (by omega)])
      go_enter Try.func23, Try.ntmps23
      go_wp2
      go_ret
      have hf := H4.out
      rw [E.out] at hf
      rw [E.out]
      exact ⟨rfl, ⟨v, set_cellsN 1 H1.out rfl, h2, Kd.R_set H3.out H1.out u8_Es 1 _, hf⟩, Off.set w (p := ⟨g, 1, none⟩) h2.1 _, (Below.refl _ _).setCell (p := ⟨g, 1, none⟩) h2.2 _⟩
end Go.Proofs.Ytgkcncdanhkkoaa.Fw
