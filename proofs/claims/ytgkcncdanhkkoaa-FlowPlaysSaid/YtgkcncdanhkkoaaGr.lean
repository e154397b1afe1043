/-
  The reference's receiver (embrasureref16.Receiver): what it is in memory; End and Read answer what the program's do. Conditions: as for the program's.
-/
import Derived.Test.YtgkcncdanhkkoaaFz
import Derived.Test.YtgkcncdanhkkoaaWApart
namespace Go.Proofs.Ytgkcncdanhkkoaa.Fw
open Go.RowKit Go.Maps Go.Proofs.Ytgkcncdanhkkoaa.Sp Go.Proofs.YtgkcncdanhkkoaaW.PrintWords Go.Proofs.YtgkcncdanhkkoaaW.PrintLast Go.Proofs.YtgkcncdanhkkoaaW.PrintMore
set_option linter.unusedVariables false
set_option linter.unusedSimpArgs false
/-- Bytes by their places, and whether each came. -/
def Fits (G : Nat → Option Int) (B : List Int) (C : List Bool) : Prop := B.length = C.length ∧ B.length ≤ 1048576 ∧ ∀ i, G i = if C[i]? = some true then B[i]? else none
def RqAt (base g : Nat) (r : Rc) (w : World) (ok : Nat → Prop) : Prop :=
  ∃ vB vC B C, w.heap[g]? = some (.cells #[.int .i64 r.win, vB, vC, .int .i64 r.read] 54 (0, 0)) ∧ (ok g ∧ base ≤ g) ∧ (Kd.int .u8).R 5 w base ok vB B ∧ Kd.bool.R 4 w base ok vC C ∧ Fits r.G B C ∧ r.half ∧ r.G r.b.length = none
theorem RqAt.step {base g : Nat} {r : Rc} {w w1 : World} {ok : Nat → Prop} (h : RqAt base g r w ok) (hm : ∀ k, ok k → k < w.heap.size → w1.heap[k]? = w.heap[k]?) : RqAt base g r w1 ok := by
  obtain ⟨vB, vC, B, C, h1, h2, h3, h4, h5⟩ := h
  exact ⟨vB, vC, B, C, (hm g h2.1 (Array.getElem?_eq_some_iff.1 h1).1).trans h1, h2, Kd.R_step h3 hm, Kd.R_step h4 hm, h5⟩
def rqOb (base g : Nat) (r : Rc) : Ob := ⟨RqAt base g r, fun h hm => h.step hm⟩
theorem RqAt.mono {base g : Nat} {r : Rc} {w : World} {ok ok' : Nat → Prop} (h : RqAt base g r w ok) (ho : ∀ k, ok k → ok' k) : RqAt base g r w ok' := by
  obtain ⟨vB, vC, B, C, h1, h2, h3, h4, h5⟩ := h
  exact ⟨vB, vC, B, C, h1, ⟨ho _ h2.1, h2.2⟩, Kd.R_mono h3 ho, Kd.R_mono h4 ho, h5⟩
theorem RqAt.bound {base g : Nat} {r : Rc} {w : World} {ok : Nat → Prop} (h : RqAt base g r w ok) : RqAt base g r w (fun k => ok k ∧ k < w.heap.size) := by
  obtain ⟨vB, vC, B, C, h1, h2, h3, h4, h5⟩ := h
  exact ⟨vB, vC, B, C, h1, ⟨⟨h2.1, (Array.getElem?_eq_some_iff.1 h1).1⟩, h2.2⟩, Kd.R_mono (Kd.R_bound h3) (fun k hk => ⟨hk.1, hk.2.2.1⟩), Kd.R_mono (Kd.R_bound h4) (fun k hk => ⟨hk.1, hk.2.2.1⟩), h5⟩
theorem fits_came {G : Nat → Option Int} {B : List Int} {C : List Bool} (h : Fits G B C) {i : Nat} (hi : i < C.length) : C[i] = (G i).isSome := by
  have e := h.2.2 i
  rw [List.getElem?_eq_getElem hi] at e
  cases hc : C[i] with
  | true =>
    rw [hc, if_pos rfl, List.getElem?_eq_getElem (by rw [h.1]; exact hi)] at e
    rw [e]; rfl
  | false =>
    rw [hc, if_neg (by simp)] at e
    rw [e]; rfl
theorem fits_val {G : Nat → Option Int} {B : List Int} {C : List Bool} (h : Fits G B C) {i : Nat} {c : Int} (hi : G i = some c) : ∃ hl : i < B.length, B[i] = c ∧ i < C.length := by
  have e := h.2.2 i
  rw [hi] at e
  split at e
  · have := (List.getElem?_eq_some_iff.1 e.symm)
    obtain ⟨h1, h2⟩ := this
    exact ⟨h1, h2, by rw [← h.1]; exact h1⟩
  · cases e
theorem bool_E (q : Nat) (hq : q ∈ (4 : Nat) :: Kd.bool.E) : q ≠ 54 := by
  have h : Kd.bool.E = [] := rfl
  rw [h, List.mem_singleton] at hq
  rw [hq]
  decide
theorem u8_Er (q : Nat) (hq : q ∈ (5 : Nat) :: (Kd.int .u8).E) : q ≠ 54 := by
  have h : (Kd.int .u8).E = [] := rfl
  rw [h, List.mem_singleton] at hq
  rw [hq]
  decide
theorem rdOf_get (xs : List Bool) (i : Nat) (h : i < xs.length) : rdOf false xs (i : Int) = xs[i] := by
  simp [rdOf, h]
theorem rq_end (base g : Nat) (r : Rc) (w : World) (ok : Nat → Prop) (h : RqAt base g r w ok) : Calls Try.prog 26 #[.pointer (some ⟨g, 0, none⟩)] w fun e w' => e = .returned (.int .i64 r.b.length) ∧ w = w' := by
  obtain ⟨vB, vC, B, C, h1, h2, h3, h4, h5, h6, h7⟩ := h
  obtain ⟨AC, cC, rfl, hcC, hCC⟩ := Kd.R_reads h4
  have c2 := cell_cellsN h1 2 (by simp)
  dsimp only [List.getElem_toArray, List.getElem_cons_zero, List.getElem_cons_succ] at c2
  have HC := Lib.hid hCC
  have H5 := Lib.hid h5
  have H6 := Lib.hid h6
  have H7 := Lib.hid h7
  have hbl : r.b.length ≤ C.length := by
    rcases Nat.eq_zero_or_pos r.b.length with h0 | h0
    · omega
    · have e := h6.1 (r.b.length - 1) (by omega)
      rw [List.getElem?_eq_getElem (by omega)] at e
      obtain ⟨_, _, h⟩ := fits_val h5 e
      omega
  have hcm : C.length ≤ 1048576 := by rw [← h5.1]; exact h5.2.1
  clear h1 h3 h4 h5 h6 h7 hCC
  go_enter Try.func26, Try.ntmps26
  go_wp2
  go_loop [3] (fun v3 => ∃ i : Nat, v3 = .int .i64 i ∧ i ≤ r.b.length) (fun v3 => r.b.length - (intOf v3).toNat)
  case atStart => exact ⟨0, rfl, Nat.zero_le _⟩
  case round =>
    obtain ⟨i, rfl, hi⟩ := hrel
    by_cases hlt : i < C.length
    · have b0 : decide ((i : Int) < (C.length : Int)) = true := decide_eq_true (by omega)
      have b1 : (i : Int) < (C.length : Int) := by omega
      obtain ⟨ad, rfl, hx⟩ := Kd.at_bool HC.out (i : Int) (by omega) b1
      rw [Int.toNat_natCast, rdOf_get C i hlt, fits_came H5.out hlt] at hx
      by_cases hib : i < r.b.length
      · have hs : (r.G i).isSome = true := by
          rw [H6.out.1 i hib, List.getElem?_eq_getElem hib]; rfl
        rw [hs] at hx
        go_wp2
        go_round
        case rel => exact ⟨i + 1, by go_num, by omega⟩
        case measure => simp [intOf]; omega
      · have hie : i = r.b.length := by omega
        have hs : (r.G i).isSome = false := by rw [hie, H7.out]; rfl
        rw [hs] at hx
        have HIE := Lib.hid hie
        clear hie
        go_wp2
        go_ret
        exact ⟨by rw [← HIE.out]; rfl, rfl⟩
    · have b0 : decide ((i : Int) < (C.length : Int)) = false := decide_eq_false (by omega)
      have hie : i = r.b.length := by omega
      have HIE := Lib.hid hie
      clear hie
      go_wp2
      go_ret
      exact ⟨by rw [← HIE.out]; rfl, rfl⟩
/-! ### Read -/
def readJ (r : Rc) (j : Nat) : Rc := { r with read := r.read + j }
theorem readB_more {r : Rc} {j : Nat} (h : r.read + j < r.b.length) : (r.b.drop r.read).take j ++ [r.b[r.read + j]] = (r.b.drop r.read).take (j + 1) := by
  rw [List.take_succ_eq_append_getElem (by rw [List.length_drop]; omega), List.getElem_drop]
theorem readR_of {r : Rc} {most : Int} {j : Nat} (h : readN r most = j) : readB r most = (r.b.drop r.read).take j ∧ readR r most = readJ r j := by
  unfold readB readR readJ
  rw [h]
  exact ⟨rfl, rfl⟩
theorem rq_raw {base g : Nat} {r : Rc} {w : World} {ok : Nat → Prop} (h : RqAt base g r w ok) (j : Nat) (hj : r.read + j ≤ r.b.length) (w1 : World) (hm : ∀ k, ok k → k < w.heap.size → k ≠ g → w1.heap[k]? = w.heap[k]?)
    (hg : ∀ vB vC, w.heap[g]? = some (.cells #[.int .i64 r.win, vB, vC, .int .i64 r.read] 54 (0, 0)) → w1.heap[g]? = some (.cells #[.int .i64 r.win, vB, vC, .int .i64 ((r.read + j : Nat) : Int)] 54 (0, 0))) :
    RqAt base g (readJ r j) w1 ok := by
  obtain ⟨vB, vC, B, C, h1, h2, h3, h4, h5, h6, h7⟩ := h
  have hn3 : ∀ k, (ok k ∧ k ≠ g) → k < w.heap.size → w1.heap[k]? = w.heap[k]? := fun k hk hl => hm k hk.1 hl hk.2
  have h3' := Kd.R_mono (ok' := fun k => ok k ∧ k ≠ g) (Kd.R_bound h3) (fun k hk => ⟨hk.1, fun e => by
    obtain ⟨_, _, _, q, hq, cells, hc⟩ := hk
    rw [e, h1] at hc
    injection hc with hc
    injection hc with _ hc
    exact u8_Er q hq hc.symm⟩)
  have h4' := Kd.R_mono (ok' := fun k => ok k ∧ k ≠ g) (Kd.R_bound h4) (fun k hk => ⟨hk.1, fun e => by
    obtain ⟨_, _, _, q, hq, cells, hc⟩ := hk
    rw [e, h1] at hc
    injection hc with hc
    injection hc with _ hc
    exact bool_E q hq hc.symm⟩)
  obtain ⟨b1, b2, b3, b4, b5, b6, b7⟩ := h6
  exact ⟨vB, vC, B, C, hg vB vC h1, h2, Kd.R_mono (Kd.R_step h3' hn3) (fun k hk => hk.1), Kd.R_mono (Kd.R_step h4' hn3) (fun k hk => hk.1), h5, ⟨b1, hj, b3, b4, b5, b6, b7⟩, h7⟩
set_option maxRecDepth 100000 in
set_option maxHeartbeats 4000000 in
theorem rq_read (base g : Nat) (r : Rc) (w : World) (ok : Nat → Prop) (most : Int) (h : RqAt base g r w ok) (hlt : ∀ k, ok k → k < w.heap.size) (hbs : base ≤ w.heap.size) :
    Calls Try.prog 25 #[.pointer (some ⟨g, 0, none⟩), .int .i64 most] w fun e w' => ∃ v, e = .returned v ∧ (Kd.int .u8).R 5 w' w.heap.size (fun _ => True) v (readB r most) ∧ RqAt base g (readR r most) w' ok ∧ Off ok w w' ∧ Below base w w' := by
  obtain ⟨n, hn⟩ : ∃ n, readN r most = n := ⟨_, rfl⟩
  have hh : r.half := by obtain ⟨_, _, _, _, _, _, _, _, _, h6, _⟩ := h; exact h6
  have hg : g < w.heap.size := by obtain ⟨_, _, _, _, h1, _⟩ := h; exact (Array.getElem?_eq_some_iff.1 h1).1
  have hok : ok g ∧ base ≤ g := by obtain ⟨_, _, _, _, _, h2, _⟩ := h; exact h2
  have hn2 : n ≤ r.b.length - r.read ∧ (n : Int) ≤ max most 0 ∧ (r.b.length ≤ r.read + n ∨ most ≤ n) := by
    unfold readN at hn
    omega
  have hrd := hh.2.1
  have hbl := hh.2.2.1
  have H0 := Lib.hid h
  have HLT := Lib.hid hlt
  have HH := Lib.hid hh
  have HN := Lib.hid hn
  clear h hlt hh hn
  go_enter Try.func25, Try.ntmps25
  go_wp2
  go_loopg [5] (n : Nat) (fun kq v5 wr => ∃ j : Nat, j + kq = n ∧ Hid (RqAt base g (readJ r j) wr ok) ∧ Hid ((Kd.int .u8).R 5 wr w.heap.size (fun _ => True) v5 ((r.b.drop r.read).take j)) ∧ Hid (Off ok w wr) ∧ Hid (Below base w wr))
  case atStart => exact ⟨0, by omega, Lib.hid H0.out, Lib.hid (by rw [List.take_zero]; exact Kd.R_nil _ _ _ _ _), Lib.hid (Off.refl _ _), Lib.hid (Below.refl _ _)⟩
  case round =>
    obtain ⟨j, hjn, HT, HV, HO, HB⟩ := hrel
    obtain ⟨A5, c5, hv5, hc5, _⟩ := Kd.R_reads HV.out
    rw [show ((r.b.drop r.read).take j).length = j by rw [List.length_take, List.length_drop]; omega] at hv5
    subst hv5
    obtain ⟨vB, vC, B, C, h1, _, h3, _, h5, _, _⟩ := HT.out
    obtain ⟨AB, cB, rfl, hcB, hCB⟩ := Kd.R_reads h3
    obtain ⟨m, hm⟩ : ∃ m, r.read + j = m := ⟨_, rfl⟩
    have x1 := cell_cellsN h1 1 (by simp)
    have x3 : wr.cell? ⟨g, 3, none⟩ = some (.int .i64 m) := by rw [← hm]; exact cell_cellsN h1 3 (by simp)
    dsimp only [List.getElem_toArray, List.getElem_cons_zero, List.getElem_cons_succ] at x1
    have KE := Lib.hid (show ∀ n, Calls Try.prog 26 #[.pointer (some ⟨g, 0, none⟩)] (wr.drewN n) fun e w' => e = .returned (.int .i64 r.b.length) ∧ w' = wr.drewN n from fun n => (rq_end base g (readJ r j) (wr.drewN n) ok (HT.out.step (fun _ _ _ => rfl))).mono fun e w' ⟨h1, h2⟩ => ⟨h1, h2.symm⟩)
    by_cases hlt : j < n
    · have k1 : decide ((m : Int) < (r.b.length : Int)) = true := decide_eq_true (by omega)
      have k1n : decide (m < r.b.length) = true := decide_eq_true (by omega)
      have k2 : decide ((j : Int) < most) = true := decide_eq_true (by omega)
      have hmb : m < r.b.length := by omega
      have hGm : r.G m = some r.b[m] := by
        rw [HH.out.1 m hmb, List.getElem?_eq_getElem hmb]
      obtain ⟨hmB, hBm, _⟩ := fits_val h5 hGm
      obtain ⟨ad, rfl, hcell⟩ := cell_of_C hCB m hmB rfl
      rw [hBm] at hcell
      obtain ⟨x, hx⟩ : ∃ x, r.b[m] = x := ⟨_, rfl⟩
      rw [hx] at hcell
      have HX := Lib.hid hx
      have HM := Lib.hid hm
      have hBl : B.length ≤ 1048576 := h5.2.1
      have hmB2 : (0 : Int) ≤ (m : Int) ∧ (m : Int) < (B.length : Int) := by omega
      clear h1 h3 h5 hCB hx hm hGm hBm
      go_wp2
      go_quiet ((go_at_call 26; exact Calls.quiet_of_same (KE.out _)))
      obtain ⟨U, hU⟩ : ∃ U, wr.drewN nq = U := ⟨_, rfl⟩
      have y1 : U.cell? ⟨g, 1, none⟩ = some (.slice (some ad) B.length cB) := by rw [← hU]; exact x1
      have y3 : U.cell? ⟨g, 3, none⟩ = some (.int .i64 m) := by rw [← hU]; exact x3
      have ycell : U.cell? (ad.add m) = some (.int .u8 x) := by rw [← hU]; exact hcell
      have HTu := Lib.hid (show RqAt base g (readJ r j) U ok from by rw [← hU]; exact HT.out.step (fun _ _ _ => rfl))
      have hvu : (Kd.int .u8).R 5 U w.heap.size (fun _ => True) (.slice A5 j c5) ((r.b.drop r.read).take j) := by rw [← hU]; exact Kd.R_step HV.out (fun _ _ _ => rfl)
      have HOu := Lib.hid (show Off ok w U from by rw [← hU]; exact HO.out)
      have HBu := Lib.hid (show Below base w U from by rw [← hU]; exact below_drN HB.out nq)
      have hws := HOu.out.1
      have Hd := Lib.hid (Kd.R_drew hvu)
      have Hbd := Lib.hid (Below.refl w.heap.size U.drew)
      rw [hU]
      clear hU x1 x3 hcell hvu
      go_wp2
      go_upto_region 3 with fail
      go_cut [5] (fun v5 wx => (Kd.int .u8).R 5 wx w.heap.size (fun _ => True) v5 ((r.b.drop r.read).take j ++ [x]) ∧ Below w.heap.size U.drew wx)
      case first =>
        go_region_law (refine Kd.R_append_step (Kd.int .u8) (w0 := U.drew) w.heap.size (by rfl) (.tmp 19) (.tmp 30) 22 5 (.int .u8 0) 1 rfl Try.underlying22 info8 rfl (by decide) (by decide) (.slice A5 j c5) ((r.b.drop r.read).take j) x [.int .u8 x] (fun _ => True) (fun _ => False) (by simp [Act.eval]) (by simp [Act.eval]) rfl (fun _ hk => hk.elim) (fun _ _ => trivial) Hd.out Hbd.out (by have : U.drew.heap.size = U.heap.size := rfl; omega) (by have h := List.length_take_le j (r.b.drop r.read); omega) ?_; intro v5 w5 ho5 hb5 hg5 hat5; have HO5 := Lib.hid ho5; have HB5 := Lib.hid hb5; clear ho5 hb5 hg5 hat5)
        all_goals
          go_wp2_with fail
          go_meet
          case rel => exact ⟨HO5.out, HB5.out⟩
      case rest =>
        obtain ⟨ho5, hb5⟩ := hcut
        have HO5 := Lib.hid ho5
        have HB5 := Lib.hid hb5
        obtain ⟨vB', vC', _, _, h1, _⟩ := HTu.out
        have h1c := (hb5.block g (show g < w.heap.size from hg)).trans h1
        have z3 : wc.cell? ⟨g, 3, none⟩ = some (.int .i64 m) := by rw [← HM.out]; exact cell_cellsN h1c 3 (by simp)
        have zf := frozen_cellsN h1c 3
        have H1C := Lib.hid h1c
        have e1 : IntKind.i64.wrap ((m : Int) + 1) = (m : Int) + 1 := i64_of (by omega)
        clear ho5 hb5 h1 h1c y1 y3 ycell
        go_wp2
        go_roundg (gk - 1)
        case measure => omega
        case rel =>
          have hm := HM.out
          refine ⟨j + 1, by omega, Lib.hid ?_, Lib.hid ?_, Lib.hid ?_, Lib.hid ?_⟩
          · have h := rq_raw HTu.out 1 (by show r.read + j + 1 ≤ r.b.length; omega) (wc.setCell ⟨g, 3, none⟩ (.int .i64 ((m : Int) + 1))) (fun k hk hl hne => by
              rw [Below.heap_setCell _ _ _ _ (show k ≠ g from hne)]
              exact HB5.out.block k (HLT.out k hk)) (fun vB vC hc => by
              have h2 := (HB5.out.block g (show g < w.heap.size from hg)).trans hc
              have h3 := set_cellsN 3 (z := .int .i64 ((m : Int) + 1)) h2 rfl
              rw [show (((readJ r j).read + 1 : Nat) : Int) = (m : Int) + 1 by show ((r.read + j + 1 : Nat) : Int) = _; omega]
              exact h3)
            exact h
          · have hb := readB_more (r := r) (j := j) (by omega)
            rw [← hb]
            have hx := HX.out
            subst hm
            rw [hx]
            exact Kd.R_set HO5.out H1C.out u8_Er 3 _
          · refine ⟨by have := HB5.out.size; have h : U.drew.heap.size = U.heap.size := rfl; simp only [World.setCell, Array.size_modify]; omega, fun b hb hn => ?_⟩
            exact (Below.heap_setCell _ _ _ _ (show b ≠ g from fun e => hn (e ▸ hok.1))).trans ((HB5.out.block b hb).trans (HOu.out.2 b hb hn))
          · exact ((HBu.out.drew).trans (HB5.out.mono hbs)).setCell (p := ⟨g, 3, none⟩) hok.2 _
    · have hje := Lib.hid (show j = n by omega)
      clear h1 h3 h5 hCB
      by_cases q1 : m < r.b.length
      · have k1 : decide ((m : Int) < (r.b.length : Int)) = true := decide_eq_true (by omega)
        have k1n : decide (m < r.b.length) = true := decide_eq_true q1
        have k2 : decide ((j : Int) < most) = false := decide_eq_false (by omega)
        go_wp2
        go_quiet ((go_at_call 26; exact Calls.quiet_of_same (KE.out _)))
        go_wp2
        go_ret
        have hR := readR_of (r := r) (most := most) (HN.out.trans hje.out.symm)
        refine ⟨_, rfl, ?_, ?_, HO.out, below_drN HB.out nq⟩
        · rw [hR.1]; exact Kd.R_step HV.out (fun _ _ _ => rfl)
        · rw [hR.2]; exact HT.out.step (fun _ _ _ => rfl)
      · have k1 : decide ((m : Int) < (r.b.length : Int)) = false := decide_eq_false (by omega)
        have k1n : decide (m < r.b.length) = false := decide_eq_false q1
        go_wp2
        go_quiet ((go_at_call 26; exact Calls.quiet_of_same (KE.out _)))
        go_wp2
        go_ret
        have hR := readR_of (r := r) (most := most) (HN.out.trans hje.out.symm)
        refine ⟨_, rfl, ?_, ?_, HO.out, below_drN HB.out nq⟩
        · rw [hR.1]; exact Kd.R_step HV.out (fun _ _ _ => rfl)
        · rw [hR.2]; exact HT.out.step (fun _ _ _ => rfl)
end Go.Proofs.Ytgkcncdanhkkoaa.Fw
