/-
  The reference's sender: Take answers what the program's Next does and leaves the like. Conditions: as for the program's.
-/
import Derived.Test.YtgkcncdanhkkoaaFy
import Derived.Deep.CutBlock
namespace Go.Proofs.Ytgkcncdanhkkoaa.Fw
open Go.RowKit Go.Maps Go.Proofs.Ytgkcncdanhkkoaa.Sp Go.Proofs.YtgkcncdanhkkoaaW.PrintWords Go.Proofs.YtgkcncdanhkkoaaW.PrintLast Go.Proofs.YtgkcncdanhkkoaaW.PrintMore
set_option linter.unusedVariables false
set_option linter.unusedSimpArgs false
theorem part_Eu (q : Nat) (hq : q ∈ (5 : Nat) :: (Kd.int .u8).E) : q ≠ 29 := part_E q hq
/-- Within Take: j bytes are taken. -/
structure TakeMid (base g Pb Rb B0 : Nat) (s : S) (v : Value) (j : Nat) (pv : Value) (w wr : World) (ok : Nat → Prop) : Prop where
  hg : wr.heap[g]? = some (.cells #[v, .int .i64 s.base, .int .i64 ((s.next + j : Nat) : Int), .int .i64 s.far, .int .i64 s.limit] 50 (0, 0))
  hl : (Kd.int .u8).R 5 wr base ok v s.l
  hp : wr.heap[Pb]? = some (.cells #[.int .i64 s.next, pv] 29 (0, 0))
  hr : wr.heap[Rb]? = some (.cells #[.int .i64 0, .slice none 0 0] 29 (0, 0))
  hv : (Kd.int .u8).R 5 wr B0 (fun _ => True) pv ((s.l.drop s.next).take j)
  off : Off ok w wr
  bel : Below base w wr
theorem taken_len {s : S} {j : Nat} (h : s.next + j ≤ s.l.length) : ((s.l.drop s.next).take j).length = j := by rw [List.length_take, List.length_drop]; omega
theorem taken_more {s : S} {j : Nat} (h : s.next + j < s.l.length) : (s.l.drop s.next).take j ++ [s.l[s.next + j]] = (s.l.drop s.next).take (j + 1) := by
  rw [List.take_succ_eq_append_getElem (by rw [List.length_drop]; omega), List.getElem_drop]
/-- The result is laid into its box. -/
theorem take_out {base g : Nat} {l lp : List Int} {v pv x0 x1 : Value} {b n f li : Int} {w Y : World} {ok : Nat → Prop} (hgw : g < w.heap.size) (hbs : base ≤ w.heap.size)
    (hg : Y.heap[g]? = some (.cells #[v, .int .i64 b, .int .i64 n, .int .i64 f, .int .i64 li] 50 (0, 0))) (hl : (Kd.int .u8).R 5 Y base ok v l)
    (hr : Y.heap[w.heap.size]? = some (.cells #[.int .i64 0, .slice none 0 0] 29 (0, 0))) (hv : (Kd.int .u8).R 5 Y w.heap.size (fun _ => True) pv lp) (ho : Off ok w Y) (hb : Below base w Y) :
    ∃ Z, Z = (Y.setCell ⟨w.heap.size, 0, none⟩ x0).setCell ⟨w.heap.size, 1, none⟩ x1 ∧ Z.heap[g]? = some (.cells #[v, .int .i64 b, .int .i64 n, .int .i64 f, .int .i64 li] 50 (0, 0)) ∧
      (Kd.int .u8).R 5 Z base ok v l ∧ Z.heap[w.heap.size]? = some (.cells #[x0, x1] 29 (0, 0)) ∧ (Kd.int .u8).R 5 Z w.heap.size (fun _ => True) pv lp ∧ Off ok w Z ∧ Below base w Z := by
  refine ⟨_, rfl, ?_, ?_, set_cellsN 1 (set_cellsN 0 hr rfl) rfl, ?_, ?_, ?_⟩
  · rw [Below.heap_setCell _ _ _ _ (show g ≠ w.heap.size by omega), Below.heap_setCell _ _ _ _ (show g ≠ w.heap.size by omega)]; exact hg
  · exact Kd.R_set (Kd.R_set hl hr part_E 0 _) (set_cellsN 0 hr rfl) part_E 1 _
  · exact Kd.R_set (Kd.R_set hv hr part_E 0 _) (set_cellsN 0 hr rfl) part_E 1 _
  · exact Off.later (Off.later ho (Nat.le_refl _) _) (Nat.le_refl _) _
  · exact (hb.setCell (p := ⟨w.heap.size, 0, none⟩) hbs _).setCell (p := ⟨w.heap.size, 1, none⟩) hbs _
set_option maxRecDepth 100000 in
set_option maxHeartbeats 4000000 in
theorem rs_take (base g : Nat) (s : S) (w : World) (ok : Nat → Prop) (h : RsAt base g s w ok) (hlt : ∀ k, ok k → k < w.heap.size) :
    Calls Try.prog 22 #[.pointer (some ⟨g, 0, none⟩)] w fun e w' => Off ok w w' ∧ Below base w w' ∧
      ((nextE s ≤ s.next ∧ e = .returned (.tuple #[.agg #[.int .i64 0, .slice none 0 0], .bool false]) ∧ RsAt base g s w' ok) ∨
      (s.next < nextE s ∧ ∃ v, e = .returned (.tuple #[.agg #[.int .i64 s.next, v], .bool true]) ∧ (Kd.int .u8).R 5 w' w.heap.size (fun _ => True) v (nextB s) ∧ RsAt base g (nextS s) w' ok)) := by
  obtain ⟨v, h1, h2, h3, h4⟩ := h
  obtain ⟨A, c, rfl, hc, hC⟩ := Kd.R_reads h3
  have HF := Lib.hid h4
  obtain ⟨b1, b2, b3, b4, b5, b6⟩ := h4
  have hg : g < w.heap.size := (Array.getElem?_eq_some_iff.1 h1).1
  obtain ⟨W1, hW1⟩ : ∃ W1, w.alloc (.cells #[.int .i64 0, .slice none 0 0] 29) = W1 := ⟨_, rfl⟩
  have hb1 : Below w.heap.size w W1 := by rw [← hW1]; exact (Below.refl _ _).alloc (Nat.le_refl _) _
  have hE1 : W1.heap[w.heap.size]? = some (.cells #[.int .i64 0, .slice none 0 0] 29 (0, 0)) := by rw [← hW1]; exact new_cellsN _ _ _
  have hs1 : w.heap.size < W1.heap.size := by rw [← hW1]; simp
  have h1W := (hb1.block g hg).trans h1
  have c2 := cell_cellsN h1W 2 (by simp)
  dsimp only [List.getElem_toArray, List.getElem_cons_zero, List.getElem_cons_succ] at c2
  have HE1 := Lib.hid hE1
  have HB1 := Lib.hid hb1
  have H1W := Lib.hid h1W
  have H3 := Lib.hid h3
  have HLT := Lib.hid hlt
  have hbase : base ≤ w.heap.size := by omega
  clear h1 h3 hC b6 hE1 hb1 h1W hlt
  go_enter Try.func22, Try.ntmps22
  go_upto_block 0 with fail
  obtain ⟨W2, hW2⟩ : ∃ W2, W1.alloc (.cells #[.int .i64 s.next, .slice none 0 0] 29) = W2 := ⟨_, rfl⟩
  have hb2 : Below W1.heap.size W1 W2 := by rw [← hW2]; exact (Below.refl _ _).alloc (Nat.le_refl _) _
  have hE2 : W2.heap[W1.heap.size]? = some (.cells #[.int .i64 s.next, .slice none 0 0] 29 (0, 0)) := by rw [← hW2]; exact new_cellsN _ _ _
  have hbW : Below w.heap.size w W2 := HB1.out.trans (hb2.mono (by omega))
  have HM := Lib.hid (show TakeMid base g W1.heap.size w.heap.size w.heap.size s (.slice A s.l.length c) 0 (.slice none 0 0) w W2 ok from
    ⟨(hb2.block g (by omega)).trans H1W.out, Kd.R_below H3.out hbW, hE2, (hb2.block _ hs1).trans HE1.out, by rw [List.take_zero]; exact Kd.R_nil _ _ _ _ _, Off.below hbW, hbW.mono hbase⟩)
  obtain ⟨n, hn⟩ : ∃ n, nextE s - s.next = n := ⟨_, rfl⟩
  have hn2 : n ≤ 500 ∧ (0 < n → s.next + n ≤ s.l.length ∧ s.next + n ≤ s.limit ∧ s.next + n = nextE s) ∧ (n < 500 → s.l.length ≤ s.next + n ∨ s.limit ≤ s.next + n) := by
    have := nextE_le s
    unfold nextE at hn this ⊢
    omega
  rw [hW2]
  have HN := Lib.hid hn
  clear hW1 hW2 c2 hb2 hE2 hbW hn
  go_cut [] (fun wx => ∃ pv : Value, Hid (TakeMid base g W1.heap.size w.heap.size w.heap.size s (.slice A s.l.length c) n pv w wx ok))
  case first =>
    go_wp2_with fail
    go_loopg [] (n : Nat) (fun kq wr => ∃ (j : Nat) (pv : Value), j + kq = n ∧ Hid (TakeMid base g W1.heap.size w.heap.size w.heap.size s (.slice A s.l.length c) j pv w wr ok))
    case atStart => exact ⟨0, _, by omega, HM⟩
    case round =>
      obtain ⟨j, pv, hjk, HT⟩ := hrel
      have hjl : s.next + j ≤ s.l.length := by omega
      obtain ⟨A5, c5, hpv, hc5, _⟩ := Kd.R_reads HT.out.hv
      rw [taken_len hjl] at hpv
      subst hpv
      have x0 := cell_cellsN HT.out.hg 0 (by simp)
      have x2 := cell_cellsN HT.out.hg 2 (by simp)
      have x4 := cell_cellsN HT.out.hg 4 (by simp)
      have p1 := cell_cellsN HT.out.hp 1 (by simp)
      dsimp only [List.getElem_toArray, List.getElem_cons_zero, List.getElem_cons_succ] at x0 x2 x4 p1
      obtain ⟨m, hm⟩ : ∃ m, s.next + j = m := ⟨_, rfl⟩
      rw [hm] at x2 hjl
      by_cases hjn : j < n
      · have k1 : decide ((m : Int) < (s.l.length : Int)) = true := decide_eq_true (by omega)
        have k1n : decide (m < s.l.length) = true := decide_eq_true (by omega)
        have k2 : decide ((m : Int) < (s.limit : Int)) = true := decide_eq_true (by omega)
        have k2n : decide (m < s.limit) = true := decide_eq_true (by omega)
        have k3 : decide ((j : Int) < 500) = true := decide_eq_true (by omega)
        go_wp2
        go_quiet (fail)
        obtain ⟨U, hU⟩ : ∃ U, wr.drewN nq = U := ⟨_, rfl⟩
        have HTu := Lib.hid (show TakeMid base g W1.heap.size w.heap.size w.heap.size s (.slice A s.l.length c) j (.slice A5 j c5) w U ok from by
          obtain ⟨t1, t2, t3, t4, t5, t6, t7⟩ := HT.out
          rw [← hU]
          exact ⟨t1, Kd.R_step t2 (fun _ _ _ => rfl), t3, t4, Kd.R_step t5 (fun _ _ _ => rfl), t6, below_drN t7 nq⟩)
        rw [hU]
        clear hU x0 x2 x4 p1
        obtain ⟨_, _, hA0, _, hCl⟩ := Kd.R_reads HTu.out.hl
        injection hA0 with hA0 _ hA0c
        subst hA0 hA0c
        have hml : m < s.l.length := by omega
        obtain ⟨ad, rfl, hcell⟩ := cell_of_C hCl m hml rfl
        obtain ⟨x, hx⟩ : ∃ x, s.l[m] = x := ⟨_, rfl⟩
        rw [hx] at hcell
        have HX := Lib.hid hx
        have HM := Lib.hid hm
        have x0 := cell_cellsN HTu.out.hg 0 (by simp)
        have x2 := cell_cellsN HTu.out.hg 2 (by simp)
        have p1 := cell_cellsN HTu.out.hp 1 (by simp)
        dsimp only [List.getElem_toArray, List.getElem_cons_zero, List.getElem_cons_succ] at x0 x2 p1
        rw [hm] at x2
        have hPl : W1.heap.size < U.heap.size := (Array.getElem?_eq_some_iff.1 HTu.out.hp).1
        have hml0 : (0 : Int) ≤ (m : Int) ∧ (m : Int) < (s.l.length : Int) := by omega
        have hne := Lib.hid (Kd.R_ne HTu.out.hv HTu.out.hp (by decide))
        have hneR := Lib.hid (Kd.R_ne HTu.out.hv HTu.out.hr (by decide))
        have hws := HTu.out.off.1
        have Hd := Lib.hid (Kd.R_drew HTu.out.hv)
        have Hbd := Lib.hid (Below.refl w.heap.size U.drew)
        clear hx hm hCl
        go_wp2
        go_upto_region 3 with fail
        go_cut [] (fun wx => ∃ v5 w5, wx = w5.setCell ⟨W1.heap.size, 1, none⟩ v5 ∧ (Kd.int .u8).R 5 w5 w.heap.size (fun _ => True) v5 ((s.l.drop s.next).take j ++ [x]) ∧ Below w.heap.size U.drew w5 ∧ U.drew.grownBy w5 (Value.slice A5 j c5).ownBlock)
        case first =>
          go_region_law (refine Kd.R_append_step (Kd.int .u8) (w0 := U.drew) w.heap.size (by rfl) (.tmp 38) (.tmp 49) 22 5 (.int .u8 0) 1 rfl Try.underlying22 info8 rfl (by decide) (by decide) (.slice A5 j c5) ((s.l.drop s.next).take j) x [.int .u8 x] (fun _ => True) (fun _ => False) (by simp [Act.eval]) (by simp [Act.eval]) rfl (fun _ hk => hk.elim) (fun _ _ => trivial) Hd.out Hbd.out (by have : U.drew.heap.size = U.heap.size := rfl; omega) (by have h := List.length_take_le j (s.l.drop s.next); omega) ?_; intro v5 w5 ho5 hb5 hg5 hat5; obtain ⟨A6, cp6, hv6, _, _⟩ := Kd.R_reads ho5; obtain ⟨m6, hm6⟩ : ∃ m6, ((s.l.drop s.next).take j ++ [x]).length = m6 := ⟨_, rfl⟩; rw [hm6] at hv6; subst hv6; have h5p := (hg5.block W1.heap.size hPl hne.out).trans HTu.out.hp; have c5 := cell_cellsN h5p 1 (by simp); have f5 := frozen_cellsN h5p 1; dsimp only [List.getElem_toArray, List.getElem_cons_zero, List.getElem_cons_succ] at c5; have HO5 := Lib.hid ho5; have HB5 := Lib.hid hb5; have HG5 := Lib.hid hg5; clear ho5 hb5 hg5 hat5 h5p hm6)
          all_goals
            go_wp2_with fail
            go_meet
            case rel => exact ⟨_, w5, rfl, HO5.out, HB5.out, HG5.out⟩
        case rest =>
          obtain ⟨v5, w5, rfl, ho5, hb5, hg5⟩ := hcut
          have hPg : W1.heap.size ≠ g := by omega
          obtain ⟨X5, hX5⟩ : ∃ X5, w5.setCell ⟨W1.heap.size, 1, none⟩ v5 = X5 := ⟨_, rfl⟩
          have h5g := (hb5.block g (show g < w.heap.size from hg)).trans HTu.out.hg
          have hg5g : X5.heap[g]? = some (.cells #[.slice (some ad) s.l.length c, .int .i64 s.base, .int .i64 ((s.next + j : Nat) : Int), .int .i64 s.far, .int .i64 s.limit] 50 (0, 0)) := by
            rw [← hX5, Below.heap_setCell _ _ _ _ (show g ≠ W1.heap.size from fun e => hPg e.symm)]; exact h5g
          have z2 := cell_cellsN hg5g 2 (by simp)
          have zf := frozen_cellsN hg5g 2
          dsimp only [List.getElem_toArray, List.getElem_cons_zero, List.getElem_cons_succ] at z2
          rw [HM.out] at z2
          have e1 : IntKind.i64.wrap ((m : Int) + 1) = (m : Int) + 1 := i64_of (by omega)
          have h5p := (hg5.block W1.heap.size hPl hne.out).trans HTu.out.hp
          have hRl : w.heap.size < U.heap.size := (Array.getElem?_eq_some_iff.1 HTu.out.hr).1
          have h5r := (hg5.block w.heap.size hRl hneR.out).trans HTu.out.hr
          have HT5 := Lib.hid (show X5.heap[W1.heap.size]? = some (.cells #[.int .i64 s.next, v5] 29 (0, 0)) ∧ X5.heap[w.heap.size]? = some (.cells #[.int .i64 0, .slice none 0 0] 29 (0, 0)) ∧ (Kd.int .u8).R 5 X5 w.heap.size (fun _ => True) v5 ((s.l.drop s.next).take j ++ [x]) ∧ (Kd.int .u8).R 5 X5 base ok (.slice (some ad) s.l.length c) s.l ∧ Off ok w X5 ∧ Below base w X5 from by
            rw [← hX5]
            refine ⟨set_cellsN 1 h5p rfl, by rw [Below.heap_setCell _ _ _ _ (show w.heap.size ≠ W1.heap.size by omega)]; exact h5r, Kd.R_set ho5 h5p part_E 1 _, ?_, ?_, ?_⟩
            · exact Kd.R_set (Kd.R_step HTu.out.hl (fun k hk _ => hb5.block k (HLT.out k hk))) h5p part_E 1 _
            · refine ⟨by have h1 := hg5.size; have h2 : U.drew.heap.size = U.heap.size := rfl; simp only [World.setCell, Array.size_modify]; omega, fun b hb hn => ?_⟩
              exact (Below.heap_setCell _ _ _ _ (show b ≠ W1.heap.size by omega)).trans ((hb5.block b hb).trans (HTu.out.off.2 b hb hn))
            · exact ((HTu.out.bel.drew).trans (hb5.mono (by omega))).setCell (p := ⟨W1.heap.size, 1, none⟩) (by show base ≤ W1.heap.size; omega) _)
          have HG5 := Lib.hid hg5g
          rw [hX5]
          clear hX5 h5g hg5g h5p h5r ho5 hb5 hg5 hcell x0 x2 p1
          go_wp2
          go_roundg (gk - 1)
          case measure => omega
          case rel =>
            obtain ⟨t1, t2, t3, t4, t5, t6⟩ := HT5.out
            refine ⟨j + 1, v5, by omega, Lib.hid ⟨?_, Kd.R_set t4 HG5.out u8_Es 2 _, ?_, ?_, ?_, t5.trans (Off.set X5 (p := ⟨g, 2, none⟩) h2.1 _), t6.setCell (p := ⟨g, 2, none⟩) h2.2 _⟩⟩
            · have h := set_cellsN 2 (z := .int .i64 ((s.next + (j + 1) : Nat) : Int)) HG5.out rfl
              have hm := HM.out
              rw [show ((s.next + (j + 1) : Nat) : Int) = (m : Int) + 1 by omega] at h ⊢
              exact h
            · rw [Below.heap_setCell _ _ _ _ (show W1.heap.size ≠ g from hPg)]; exact t1
            · rw [Below.heap_setCell _ _ _ _ (show w.heap.size ≠ g by omega)]; exact t2
            · have hm := HM.out
              have e := taken_more (s := s) (j := j) (by omega)
              rw [← e]
              have hx := HX.out
              subst hm
              rw [hx]
              exact Kd.R_set t3 HG5.out u8_Es 2 _
      · have hje : j = n := by omega
        by_cases q1 : m < s.l.length
        · have k1 : decide ((m : Int) < (s.l.length : Int)) = true := decide_eq_true (by omega)
          have k1n : decide (m < s.l.length) = true := decide_eq_true q1
          by_cases q2 : m < s.limit
          · have k2 : decide ((m : Int) < (s.limit : Int)) = true := decide_eq_true (by omega)
            have k2n : decide (m < s.limit) = true := decide_eq_true q2
            have k3 : decide ((j : Int) < 500) = false := decide_eq_false (by omega)
            go_wp2
            go_quiet (fail)
            go_wp2
            go_meet
            case rel => exact ⟨_, Lib.hid (by
              obtain ⟨t1, t2, t3, t4, t5, t6, t7⟩ := HT.out
              rw [← hje]
              exact ⟨t1, Kd.R_step t2 (fun _ _ _ => rfl), t3, t4, Kd.R_step t5 (fun _ _ _ => rfl), t6, below_drN t7 nq⟩)⟩
          · have k2 : decide ((m : Int) < (s.limit : Int)) = false := decide_eq_false (by omega)
            have k2n : decide (m < s.limit) = false := decide_eq_false q2
            go_wp2
            go_quiet (fail)
            go_wp2
            go_meet
            case rel => exact ⟨_, Lib.hid (by
              obtain ⟨t1, t2, t3, t4, t5, t6, t7⟩ := HT.out
              rw [← hje]
              exact ⟨t1, Kd.R_step t2 (fun _ _ _ => rfl), t3, t4, Kd.R_step t5 (fun _ _ _ => rfl), t6, below_drN t7 nq⟩)⟩
        · have k1 : decide ((m : Int) < (s.l.length : Int)) = false := decide_eq_false (by omega)
          have k1n : decide (m < s.l.length) = false := decide_eq_false q1
          go_wp2
          go_quiet (fail)
          go_wp2
          go_meet
          case rel => exact ⟨_, Lib.hid (by
            obtain ⟨t1, t2, t3, t4, t5, t6, t7⟩ := HT.out
            rw [← hje]
            exact ⟨t1, Kd.R_step t2 (fun _ _ _ => rfl), t3, t4, Kd.R_step t5 (fun _ _ _ => rfl), t6, below_drN t7 nq⟩)⟩
  case rest =>
    obtain ⟨pv, HT⟩ := hcut
    have hl : s.next + n ≤ s.l.length := by
      rcases Nat.eq_zero_or_pos n with h | h
      · omega
      · exact (hn2.2.1 h).1
    obtain ⟨A5, c5, hpv, hc5, _⟩ := Kd.R_reads HT.out.hv
    rw [taken_len hl] at hpv
    subst hpv
    have x2 := cell_cellsN HT.out.hg 2 (by simp)
    have x3 := cell_cellsN HT.out.hg 3 (by simp)
    dsimp only [List.getElem_toArray, List.getElem_cons_zero, List.getElem_cons_succ] at x2 x3
    obtain ⟨m, hm⟩ : ∃ m, s.next + n = m := ⟨_, rfl⟩
    rw [hm] at x2
    have HMm := Lib.hid hm
    have HFS := HF.out
    by_cases hfm : s.far < m
    · have k1 : decide ((s.far : Int) < (m : Int)) = true := decide_eq_true (by omega)
      have k1n : decide (s.far < m) = true := decide_eq_true hfm
      go_wp2
      go_quiet (fail)
      obtain ⟨V, hV⟩ : ∃ V, wc.drewN nq = V := ⟨_, rfl⟩
      have HTV := Lib.hid (show TakeMid base g W1.heap.size w.heap.size w.heap.size s (.slice A s.l.length c) n (.slice A5 n c5) w V ok from by
        obtain ⟨t1, t2, t3, t4, t5, t6, t7⟩ := HT.out
        rw [← hV]
        exact ⟨t1, Kd.R_step t2 (fun _ _ _ => rfl), t3, t4, Kd.R_step t5 (fun _ _ _ => rfl), t6, below_drN t7 nq⟩)
      rw [hV]
      clear hV x2 x3
      have x2 := cell_cellsN HTV.out.hg 2 (by simp)
      have x3 := cell_cellsN HTV.out.hg 3 (by simp)
      have xf := frozen_cellsN HTV.out.hg 3
      have p0 := cell_cellsN HTV.out.hp 0 (by simp)
      have p1 := cell_cellsN HTV.out.hp 1 (by simp)
      have y0 := cell_cellsN HTV.out.hr 0 (by simp)
      have y1 := cell_cellsN HTV.out.hr 1 (by simp)
      have z0 := frozen_cellsN HTV.out.hr 0
      have z1 := frozen_cellsN HTV.out.hr 1
      dsimp only [List.getElem_toArray, List.getElem_cons_zero, List.getElem_cons_succ] at x2 x3 p0 p1 y0 y1
      rw [hm] at x2
      have hn0 : 0 < n := by have := HFS.2.1; omega
      have g1 : ((n : Int) == 0) = false := by rw [beq_eq_false_iff_ne]; omega
      have g2 : ¬ n = 0 := by omega
      have hgr : g ≠ w.heap.size := by omega
      have hgp : g ≠ W1.heap.size := by omega
      have hprn : W1.heap.size ≠ w.heap.size := by omega
      clear hm
      go_wp2
      refine bodyPost_ret (v := .tuple #[.agg #[.int .i64 s.next, .slice A5 n c5], .bool true]) ?_ rfl ?_
      · have h3 : (V.setCell ⟨g, 3, none⟩ (.int .i64 m)).heap[w.heap.size]? = some (.cells #[.int .i64 0, .slice none 0 0] 29 (0, 0)) := by
          rw [Below.heap_setCell _ _ _ _ (show w.heap.size ≠ g from fun e => hgr e.symm)]; exact HTV.out.hr
        have hE2 := set_cellsN 1 (z := .slice A5 n c5) (set_cellsN 0 (z := .int .i64 s.next) h3 rfl) rfl
        have r0 := cell_cellsN hE2 0 (by simp)
        have r1 := cell_cellsN hE2 1 (by simp)
        simp [results, Try.f22, Try.results22, go_sem, r0, r1]
      · obtain ⟨t1, t2, t3, t4, t5, t6, t7⟩ := HTV.out
        have hm := HMm.out
        have hne : s.next < nextE s := by
          have := hn2.2.1 hn0
          omega
        have hnE : nextE s = m := by have := hn2.2.1 hn0; omega
        rw [hm] at t1
        have u1 := set_cellsN 3 (z := .int .i64 (m : Int)) t1 rfl
        obtain ⟨Z, hZ, k1, k2, k3, k4, k5, k6⟩ := take_out (x0 := .int .i64 s.next) (x1 := .slice A5 n c5) hg hbase u1 (Kd.R_set t2 t1 u8_Es 3 _) (by
          rw [Below.heap_setCell _ _ _ _ (show w.heap.size ≠ g from fun e => hgr e.symm)]; exact t4) (Kd.R_set t5 t1 u8_Es 3 _) (t6.trans (Off.set V (p := ⟨g, 3, none⟩) h2.1 _)) (t7.setCell (p := ⟨g, 3, none⟩) h2.2 _)
        rw [← hZ]
        refine ⟨k5, k6, .inr ⟨hne, _, rfl, ?_, ⟨_, ?_, h2, k2, next_fine HF.out hne⟩⟩⟩
        · unfold nextB
          rw [HN.out]
          exact k4
        · unfold nextS
          rw [hnE, Nat.max_eq_right (by omega)]
          exact k1
    · have k1 : decide ((s.far : Int) < (m : Int)) = false := decide_eq_false (by omega)
      have k1n : decide (s.far < m) = false := decide_eq_false hfm
      by_cases hn0 : n = 0
      · have g1 : ((n : Int) == 0) = true := by rw [hn0]; rfl
        clear hm
        go_wp2
        go_quiet (fail)
        obtain ⟨V, hV⟩ : ∃ V, wc.drewN nq = V := ⟨_, rfl⟩
        have HTV := Lib.hid (show TakeMid base g W1.heap.size w.heap.size w.heap.size s (.slice A s.l.length c) n (.slice A5 n c5) w V ok from by
          obtain ⟨t1, t2, t3, t4, t5, t6, t7⟩ := HT.out
          rw [← hV]
          exact ⟨t1, Kd.R_step t2 (fun _ _ _ => rfl), t3, t4, Kd.R_step t5 (fun _ _ _ => rfl), t6, below_drN t7 nq⟩)
        rw [hV]
        clear hV x2 x3
        have p0 := cell_cellsN HTV.out.hp 0 (by simp)
        have p1 := cell_cellsN HTV.out.hp 1 (by simp)
        have y0 := cell_cellsN HTV.out.hr 0 (by simp)
        have y1 := cell_cellsN HTV.out.hr 1 (by simp)
        have z0 := frozen_cellsN HTV.out.hr 0
        have z1 := frozen_cellsN HTV.out.hr 1
        dsimp only [List.getElem_toArray, List.getElem_cons_zero, List.getElem_cons_succ] at p0 p1 y0 y1
        have hgr : g ≠ w.heap.size := by omega
        have hgp : g ≠ W1.heap.size := by omega
        have hprn : W1.heap.size ≠ w.heap.size := by omega
        go_wp2
        refine bodyPost_ret (v := .tuple #[.agg #[.int .i64 0, .slice none 0 0], .bool false]) ?_ rfl ?_
        · have hE2 := set_cellsN 1 (z := .slice none 0 0) (set_cellsN 0 (z := .int .i64 0) HTV.out.hr rfl) rfl
          have r0 := cell_cellsN hE2 0 (by simp)
          have r1 := cell_cellsN hE2 1 (by simp)
          simp [results, Try.f22, Try.results22, go_sem, r0, r1]
        · obtain ⟨t1, t2, t3, t4, t5, t6, t7⟩ := HTV.out
          have hm := HMm.out
          have hne : nextE s ≤ s.next := by have := HN.out; omega
          obtain ⟨Z, hZ, k1, k2, k3, k4, k5, k6⟩ := take_out (x0 := .int .i64 0) (x1 := .slice none 0 0) hg hbase t1 t2 t4 t5 t6 t7
          rw [← hZ]
          refine ⟨k5, k6, .inl ⟨hne, rfl, ⟨_, ?_, h2, k2, HF.out⟩⟩⟩
          rw [hn0] at k1
          exact k1
      · have g1 : ((n : Int) == 0) = false := by rw [beq_eq_false_iff_ne]; omega
        clear hm
        go_wp2
        go_quiet (fail)
        obtain ⟨V, hV⟩ : ∃ V, wc.drewN nq = V := ⟨_, rfl⟩
        have HTV := Lib.hid (show TakeMid base g W1.heap.size w.heap.size w.heap.size s (.slice A s.l.length c) n (.slice A5 n c5) w V ok from by
          obtain ⟨t1, t2, t3, t4, t5, t6, t7⟩ := HT.out
          rw [← hV]
          exact ⟨t1, Kd.R_step t2 (fun _ _ _ => rfl), t3, t4, Kd.R_step t5 (fun _ _ _ => rfl), t6, below_drN t7 nq⟩)
        rw [hV]
        clear hV x2 x3
        have p0 := cell_cellsN HTV.out.hp 0 (by simp)
        have p1 := cell_cellsN HTV.out.hp 1 (by simp)
        have y0 := cell_cellsN HTV.out.hr 0 (by simp)
        have y1 := cell_cellsN HTV.out.hr 1 (by simp)
        have z0 := frozen_cellsN HTV.out.hr 0
        have z1 := frozen_cellsN HTV.out.hr 1
        dsimp only [List.getElem_toArray, List.getElem_cons_zero, List.getElem_cons_succ] at p0 p1 y0 y1
        have hgr : g ≠ w.heap.size := by omega
        have hgp : g ≠ W1.heap.size := by omega
        have hprn : W1.heap.size ≠ w.heap.size := by omega
        go_wp2
        refine bodyPost_ret (v := .tuple #[.agg #[.int .i64 s.next, .slice A5 n c5], .bool true]) ?_ rfl ?_
        · have hE2 := set_cellsN 1 (z := .slice A5 n c5) (set_cellsN 0 (z := .int .i64 s.next) HTV.out.hr rfl) rfl
          have r0 := cell_cellsN hE2 0 (by simp)
          have r1 := cell_cellsN hE2 1 (by simp)
          simp [results, Try.f22, Try.results22, go_sem, r0, r1]
        · obtain ⟨t1, t2, t3, t4, t5, t6, t7⟩ := HTV.out
          have hm := HMm.out
          have hne : s.next < nextE s := by
            have := hn2.2.1 (by omega)
            omega
          have hnE : nextE s = m := by have := hn2.2.1 (by omega); omega
          rw [hm] at t1
          obtain ⟨Z, hZ, k1, k2, k3, k4, k5, k6⟩ := take_out (x0 := .int .i64 s.next) (x1 := .slice A5 n c5) hg hbase t1 t2 t4 t5 t6 t7
          rw [← hZ]
          refine ⟨k5, k6, .inr ⟨hne, _, rfl, ?_, ⟨_, ?_, h2, k2, next_fine HF.out hne⟩⟩⟩
          · unfold nextB
            rw [HN.out]
            exact k4
          · unfold nextS
            rw [hnE, Nat.max_eq_left (by omega)]
            exact k1
end Go.Proofs.Ytgkcncdanhkkoaa.Fw
