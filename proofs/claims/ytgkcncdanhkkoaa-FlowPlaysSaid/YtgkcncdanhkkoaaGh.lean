/-
  The reference's receiver: Hear answers what the program's does and leaves the like. Conditions: as for the program's.
-/
import Derived.Test.YtgkcncdanhkkoaaGr
namespace Go.Proofs.Ytgkcncdanhkkoaa.Fw
open Go.RowKit Go.Maps Go.Proofs.Ytgkcncdanhkkoaa.Sp Go.Proofs.YtgkcncdanhkkoaaW.PrintWords Go.Proofs.YtgkcncdanhkkoaaW.PrintLast Go.Proofs.YtgkcncdanhkkoaaW.PrintMore
set_option linter.unusedVariables false
set_option linter.unusedSimpArgs false
theorem fits_grow {G : Nat → Option Int} {B : List Int} {C : List Bool} (h : Fits G B C) (hm : B.length + 1 ≤ 1048576) : Fits G (B ++ [0]) (C ++ [false]) := by
  refine ⟨by rw [List.length_append, List.length_append, h.1]; rfl, by rw [List.length_append]; exact hm, fun i => ?_⟩
  rw [h.2.2 i]
  by_cases hi : i < C.length
  · rw [List.getElem?_append_left hi, List.getElem?_append_left (by rw [h.1]; exact hi)]
  · rw [List.getElem?_eq_none (by omega), if_neg (by simp)]
    by_cases hi2 : i = C.length
    · rw [hi2, List.getElem?_append_right (Nat.le_refl _), Nat.sub_self, if_neg (by simp)]
    · rw [List.getElem?_eq_none (by rw [List.length_append, List.length_singleton]; omega), if_neg (by simp)]
theorem fits_put {G : Nat → Option Int} {B : List Int} {C : List Bool} (h : Fits G B C) (j : Nat) (x : Int) (hj : j < B.length) : Fits (upd G j x) (B.set j x) (C.set j true) := by
  refine ⟨by rw [List.length_set, List.length_set, h.1], by rw [List.length_set]; exact h.2.1, fun i => ?_⟩
  have hjc : j < C.length := by rw [← h.1]; exact hj
  unfold upd
  by_cases hi : i = j
  · rw [if_pos hi, hi, List.getElem?_set_self hjc, if_pos rfl, List.getElem?_set_self hj]
  · rw [if_neg hi, List.getElem?_set_ne (fun e => hi e.symm), List.getElem?_set_ne (fun e => hi e.symm)]
    exact h.2.2 i
set_option maxRecDepth 100000 in
set_option maxHeartbeats 2000000 in
theorem rq_hear_no (base g : Nat) (r : Rc) (w : World) (ok : Nat → Prop) (off : Int) (A : Option Addr) (m c : Nat) (h : RqAt base g r w ok) (hm : m ≤ 1000000000000) (hb : hearB r off m = true) :
    Calls Try.prog 24 #[.pointer (some ⟨g, 0, none⟩), .agg #[.int .i64 off, .slice A m c]] w fun e w' => e = .returned (.bool false) ∧ Below w.heap.size w w' := by
  obtain ⟨vB, vC, B, C, h1, h2, h3, h4, h5, h8, h7⟩ := h
  obtain ⟨b1, b2, b3, b4, b5, b6⟩ := h8
  have hg : g < w.heap.size := (Array.getElem?_eq_some_iff.1 h1).1
  obtain ⟨W, hW⟩ : ∃ W, w.alloc (.cells #[.int .i64 off, .slice A m c] 29) = W := ⟨_, rfl⟩
  have hbW : Below w.heap.size w W := by rw [← hW]; exact (Below.refl _ _).alloc (Nat.le_refl _) _
  have h1W := (hbW.block g hg).trans h1
  have hE : W.heap[w.heap.size]? = some (.cells #[.int .i64 off, .slice A m c] 29 (0, 0)) := by rw [← hW]; exact new_cellsN _ _ _
  have c0 := cell_cellsN h1W 0 (by simp)
  have c3 := cell_cellsN h1W 3 (by simp)
  have d0 := cell_cellsN hE 0 (by simp)
  have d1 := cell_cellsN hE 1 (by simp)
  dsimp only [List.getElem_toArray, List.getElem_cons_zero, List.getElem_cons_succ] at c0 c3 d0 d1
  have HBW := Lib.hid hbW
  clear h1 h2 h3 h4 h5 h7 b1 b6 h1W hE hbW
  unfold hearB at hb
  by_cases k1 : off < 0
  · have g1 : decide (off < 0) = true := decide_eq_true k1
    clear hb
    go_enter Try.func24, Try.ntmps24
    go_wp2
    go_ret
    exact ⟨rfl, HBW.out⟩
  · have g1 : decide (off < 0) = false := decide_eq_false k1
    by_cases k2 : 1048576 < off
    · have g2 : decide (1048576 < off) = true := decide_eq_true k2
      clear hb
      go_enter Try.func24, Try.ntmps24
      go_wp2
      go_ret
      exact ⟨rfl, HBW.out⟩
    · have g2 : decide (1048576 < off) = false := decide_eq_false k2
      by_cases k3 : m < 1
      · have g3 : decide ((m : Int) < 1) = true := decide_eq_true (by omega)
        have g3n : decide (m < 1) = true := decide_eq_true k3
        have m0 : m = 0 := by omega
        subst m0
        clear hb
        go_enter Try.func24, Try.ntmps24
        go_wp2
        go_ret
        exact ⟨rfl, HBW.out⟩
      · have g3 : decide ((m : Int) < 1) = false := decide_eq_false (by omega)
        by_cases k4 : 500 < m
        · have g4 : decide (500 < (m : Int)) = true := decide_eq_true (by omega)
          clear hb
          go_enter Try.func24, Try.ntmps24
          go_wp2
          go_ret
          exact ⟨rfl, HBW.out⟩
        · have g4 : decide (500 < (m : Int)) = false := decide_eq_false (by omega)
          have e1 : IntKind.i64.wrap (off + (m : Int)) = off + (m : Int) := i64_of (by omega)
          have e2 : IntKind.i64.wrap ((r.read : Int) + (r.win : Int)) = (r.read : Int) + (r.win : Int) := i64_of (by omega)
          have hor : (r.read : Int) + r.win < off + m ∨ 1048576 < off + (m : Int) := by
            simp only [Bool.or_eq_true, decide_eq_true_eq] at hb
            omega
          clear hb
          by_cases k5 : (r.read : Int) + r.win < off + m
          · have g5 : decide ((r.read : Int) + (r.win : Int) < off + (m : Int)) = true := decide_eq_true k5
            go_enter Try.func24, Try.ntmps24
            go_wp2
            go_quiet (fail)
            go_wp2
            go_ret
            exact ⟨rfl, below_drN HBW.out _⟩
          · have g5 : decide ((r.read : Int) + (r.win : Int) < off + (m : Int)) = false := decide_eq_false k5
            have g6 : decide (1048576 < off + (m : Int)) = true := decide_eq_true (by omega)
            go_enter Try.func24, Try.ntmps24
            go_wp2
            go_quiet (fail)
            go_wp2
            go_ret
            exact ⟨rfl, below_drN HBW.out _⟩
/-! ### taken -/
theorem infoB : (Try.prog.info? 4).map (fun i => (i.zero, i.size, i.bytes)) = some (some (.bool false), 1, 1) := by kernel_rfl
theorem R_apart {α β : Type} {d : Kd α} {d' : Kd β} {e e' : Nat} {w w1 : World} {base base' : Nat} {ok ok' : Nat → Prop} {v v' : Value} {xs : List α} {ys : List β} (h : d.R e w base ok v xs) (h' : d'.R e' w base' ok' v' ys)
    (hne : ∀ q, q ∈ e :: d.E → ∀ q', q' ∈ e' :: d'.E → q ≠ q') (hg : w.grownBy w1 v'.ownBlock) : d.R e w1 base ok v xs :=
  Kd.R_mono (Kd.R_step (Kd.R_bound h) (fun k hk hl => hg.block k hl (fun e1 => by
    obtain ⟨_, _, _, q, hq, cells, hc⟩ := hk
    obtain ⟨_, _, _, q', hq', cells', hc'⟩ := (Kd.R_bound h').1 k e1.symm
    rw [hc] at hc'
    injection hc' with hc'
    injection hc' with _ hc'
    exact hne q hq q' hq' hc'))) (fun k hk => hk.1)
theorem u8_bool (q : Nat) (hq : q ∈ (5 : Nat) :: (Kd.int .u8).E) (q' : Nat) (hq' : q' ∈ (4 : Nat) :: Kd.bool.E) : q ≠ q' := by
  have h : (Kd.int .u8).E = [] := rfl
  have h' : Kd.bool.E = [] := rfl
  rw [h, List.mem_singleton] at hq
  rw [h', List.mem_singleton] at hq'
  rw [hq, hq']
  decide
theorem bool_u8 (q : Nat) (hq : q ∈ (4 : Nat) :: Kd.bool.E) (q' : Nat) (hq' : q' ∈ (5 : Nat) :: (Kd.int .u8).E) : q ≠ q' := fun e => u8_bool q' hq' q hq e.symm
theorem bool_part (q : Nat) (hq : q ∈ (4 : Nat) :: Kd.bool.E) : q ≠ 29 := by
  have h : Kd.bool.E = [] := rfl
  rw [h, List.mem_singleton] at hq
  rw [hq]
  decide
/-- Within Hear. -/
def RqMid (base g win rd : Nat) (B : List Int) (C : List Bool) (wr : World) (ok : Nat → Prop) : Prop :=
  ∃ vB vC, wr.heap[g]? = some (.cells #[.int .i64 win, vB, vC, .int .i64 rd] 54 (0, 0)) ∧ (Kd.int .u8).R 5 wr base ok vB B ∧ Kd.bool.R 4 wr base ok vC C
theorem RqMid.step {base g win rd : Nat} {B : List Int} {C : List Bool} {w w1 : World} {ok : Nat → Prop} (h : RqMid base g win rd B C w ok) (hg : ok g) (hm : ∀ k, ok k → k < w.heap.size → w1.heap[k]? = w.heap[k]?) : RqMid base g win rd B C w1 ok := by
  obtain ⟨vB, vC, h1, h3, h4⟩ := h
  exact ⟨vB, vC, (hm g hg (Array.getElem?_eq_some_iff.1 h1).1).trans h1, Kd.R_step h3 hm, Kd.R_step h4 hm⟩
def PBox (P : Nat) (off : Int) (A : Option Addr) (n c : Nat) (wr : World) : Prop := wr.heap[P]? = some (.cells #[.int .i64 off, .slice A n c] 29 (0, 0))
/-- A byte is laid in its place, and its mark. -/
theorem mid_put {base g win rd gB gC cB cC j : Nat} {B : List Int} {C : List Bool} {x : Int} {w U V1 : World} {ok : Nat → Prop} (h1 : U.heap[g]? = some (.cells #[.int .i64 win, .slice (some ⟨gB, 0, none⟩) B.length cB, .slice (some ⟨gC, 0, none⟩) C.length cC, .int .i64 rd] 54 (0, 0)))
    (h3 : (Kd.int .u8).R 5 U base ok (.slice (some ⟨gB, 0, none⟩) B.length cB) B) (h4 : Kd.bool.R 4 U base ok (.slice (some ⟨gC, 0, none⟩) C.length cC) C) (hV1 : (U.setCell ⟨gB, j, none⟩ (.int .u8 x)).drew = V1) (hgB : g ≠ gB) (hgC : g ≠ gC) (hbB : base ≤ gB) (hbC : base ≤ gC)
    (ho : Off ok w U) (hb : Below base w U) :
    RqMid base g win rd (B.set j x) (C.set j true) (V1.setCell ⟨gC, j, none⟩ (.bool true)).drew ok ∧ Off ok w (V1.setCell ⟨gC, j, none⟩ (.bool true)).drew ∧ Below base w (V1.setCell ⟨gC, j, none⟩ (.bool true)).drew ∧
      ∀ b, b ≠ gB → b ≠ gC → (V1.setCell ⟨gC, j, none⟩ (.bool true)).drew.heap[b]? = U.heap[b]? := by
  obtain ⟨p1, p2⟩ := Kd.R_putg (enc := Value.int .u8) (h1 := fun _ => rfl) h3 (j : Int) x
  rw [Int.toNat_natCast] at p1 p2
  have p3 := R_apart h4 h3 bool_u8 p2
  have p1' : (Kd.int .u8).R 5 V1 base ok (.slice (some ⟨gB, 0, none⟩) B.length cB) (B.set j x) := by rw [← hV1]; exact Kd.R_drew p1
  have p3' : Kd.bool.R 4 V1 base ok (.slice (some ⟨gC, 0, none⟩) C.length cC) C := by rw [← hV1]; exact Kd.R_drew p3
  obtain ⟨s1, s2⟩ := Kd.R_putg (enc := Value.bool) (h1 := fun _ => rfl) p3' (j : Int) true
  rw [Int.toNat_natCast] at s1 s2
  have s3 := R_apart p1' p3' u8_bool s2
  have okB : ok gB := h3.1 gB rfl
  have okC : ok gC := h4.1 gC rfl
  have hh : ∀ b, b ≠ gB → b ≠ gC → (V1.setCell ⟨gC, j, none⟩ (.bool true)).drew.heap[b]? = U.heap[b]? := fun b h1 h2 => by
    show (V1.setCell ⟨gC, j, none⟩ (.bool true)).heap[b]? = _
    rw [Below.heap_setCell _ _ _ _ (show b ≠ gC from h2), ← hV1]
    exact Below.heap_setCell _ _ _ _ (show b ≠ gB from h1)
  refine ⟨⟨_, _, (hh g hgB hgC).trans h1, Kd.R_drew s3, Kd.R_drew s1⟩, ?_, ?_, hh⟩
  · refine ho.trans ?_
    rw [← hV1]
    exact Off.drew ((Off.drew (Off.set U (p := ⟨gB, j, none⟩) okB _)).trans (Off.set _ (p := ⟨gC, j, none⟩) okC _))
  · rw [← hV1]
    exact (((hb.setCell (p := ⟨gB, j, none⟩) hbB _).drew).setCell (p := ⟨gC, j, none⟩) hbC _).drew
set_option maxRecDepth 100000 in
set_option maxHeartbeats 4000000 in
theorem rq_hear_yes (base g : Nat) (r : Rc) (w : World) (ok : Nat → Prop) (off : Nat) (A : Option Addr) (c : Nat) (l b' : List Int) (h : RqAt base g r w ok) (hfr : ∀ k, w.heap.size ≤ k → ok k) (hbs : base ≤ w.heap.size)
    (hr : ∀ V : World, Below base w V → (Kd.int .u8).C V A l.length l) (hc : l.length ≤ c) (hl : ∀ b ∈ l, 0 ≤ b ∧ b ≤ 255) (hb : hearB r off l.length = false)
    (hh' : ({ r with b := b', n := r.n + l.length, G := fillG r.G off l } : Rc).half ∧ fillG r.G off l b'.length = none) :
    Calls Try.prog 24 #[.pointer (some ⟨g, 0, none⟩), .agg #[.int .i64 off, .slice A l.length c]] w fun e w' => e = .returned (.bool true) ∧ RqAt base g { r with b := b', n := r.n + l.length, G := fillG r.G off l } w' ok ∧ Off ok w w' ∧ Below base w w' := by
  obtain ⟨vB, vC, B0, C0, h1, h2, h3, h4, h5, h8, h7⟩ := h
  have hin := hear_in hb
  have hg : g < w.heap.size := (Array.getElem?_eq_some_iff.1 h1).1
  obtain ⟨W, hW⟩ : ∃ W, w.alloc (.cells #[.int .i64 off, .slice A l.length c] 29) = W := ⟨_, rfl⟩
  have hbW : Below w.heap.size w W := by rw [← hW]; exact (Below.refl _ _).alloc (Nat.le_refl _) _
  have h1W := (hbW.block g hg).trans h1
  have hE : PBox w.heap.size off A l.length c W := by rw [← hW]; exact new_cellsN _ _ _
  have c0 := cell_cellsN h1W 0 (by simp)
  have c3 := cell_cellsN h1W 3 (by simp)
  have d0 := cell_cellsN hE 0 (by simp)
  have d1 := cell_cellsN hE 1 (by simp)
  dsimp only [List.getElem_toArray, List.getElem_cons_zero, List.getElem_cons_succ] at c0 c3 d0 d1
  obtain ⟨b1, b2, b3, b4, b5, b6⟩ := h8
  have g1 : decide ((off : Int) < 0) = false := decide_eq_false (by omega)
  have g2 : decide (1048576 < (off : Int)) = false := decide_eq_false (by omega)
  have g3 : decide ((l.length : Int) < 1) = false := decide_eq_false (by omega)
  have g4 : decide (500 < (l.length : Int)) = false := decide_eq_false (by omega)
  obtain ⟨en, hen⟩ : ∃ en, off + l.length = en := ⟨_, rfl⟩
  have e1 : IntKind.i64.wrap ((off : Int) + (l.length : Int)) = (en : Int) := by rw [i64_of (by omega)]; omega
  have e2 : IntKind.i64.wrap ((r.read : Int) + (r.win : Int)) = (r.read : Int) + (r.win : Int) := i64_of (by omega)
  have g5 : decide ((r.read : Int) + (r.win : Int) < (en : Int)) = false := decide_eq_false (by omega)
  have g6 : decide (1048576 < (en : Int)) = false := decide_eq_false (by omega)
  have hBl := h5.2.1
  have hen2 : en ≤ 1048576 ∧ off + l.length ≤ en := by omega
  have HE := Lib.hid hE
  have HBW := Lib.hid hbW
  have HR := Lib.hid hr
  have HL := Lib.hid hl
  have HFR := Lib.hid hfr
  have HM0 := Lib.hid (show RqMid base g r.win r.read B0 C0 W ok from ⟨vB, vC, h1W, Kd.R_below h3 hbW, Kd.R_below h4 hbW⟩)
  have H5 := Lib.hid h5
  have HH' := Lib.hid hh'
  have HEN := Lib.hid hen
  clear h1 h3 h4 h5 h7 b1 b6 h1W hE hbW hr hl hfr hh' hen hb
  go_enter Try.func24, Try.ntmps24
  go_wp2
  go_quiet (fail)
  go_wp2
  clear hW c0 c3 d0 d1 g1 g2 g3 g4 g5 g6 e1 e2
  go_loopg [] ((en - B0.length) : Nat) (fun kq wr => ∃ (B : List Int) (C : List Bool), en - B.length ≤ kq ∧ B.length ≤ 1048576 ∧ Hid (Fits r.G B C) ∧ Hid (RqMid base g r.win r.read B C wr ok) ∧ Hid (PBox w.heap.size off A l.length c wr) ∧ Hid (Off ok w wr) ∧ Hid (Below base w wr))
  case atStart =>
    have hd : Below w.heap.size w (W.drewN nq) := below_drN HBW.out nq
    exact ⟨B0, C0, by omega, by omega, H5, Lib.hid (HM0.out.step h2.1 (fun _ _ _ => rfl)), Lib.hid HE.out, Lib.hid (Off.below hd), Lib.hid (hd.mono hbs)⟩
  case round =>
    obtain ⟨B, C, hk, hBe, HF, HM, HP, HO, HB⟩ := hrel
    obtain ⟨vB, vC, h1, h3, h4⟩ := HM.out
    obtain ⟨AB, cB, rfl, _, _⟩ := Kd.R_reads h3
    obtain ⟨AC, cC, rfl, _, _⟩ := Kd.R_reads h4
    have hBC := HF.out.1
    have hws := HO.out.1
    have x1 := cell_cellsN h1 1 (by simp)
    have x2 := cell_cellsN h1 2 (by simp)
    have hgl : g < wr.heap.size := (Array.getElem?_eq_some_iff.1 h1).1
    dsimp only [List.getElem_toArray, List.getElem_cons_zero, List.getElem_cons_succ] at x1 x2
    by_cases hlt : B.length < en
    · have k1 : decide ((B.length : Int) < (en : Int)) = true := decide_eq_true (by omega)
      have k1n : decide (B.length < en) = true := decide_eq_true hlt
      have H1 := Lib.hid h1
      have H3 := Lib.hid h3
      have H4 := Lib.hid h4
      have HNB := Lib.hid (Kd.R_ne h3 h1 (by decide))
      have HNP := Lib.hid (Kd.R_ne h3 HP.out (by decide))
      have hPl : w.heap.size < wr.heap.size := (Array.getElem?_eq_some_iff.1 HP.out).1
      have hBm : B.length ≤ 1048576 ∧ C.length ≤ 1048576 := by omega
      have HBC := Lib.hid hBC
      clear h1 h3 h4 hBC
      go_upto_region 8 with ((with_reducible refine gate_builtin (b := .append) (xs := #[.tmp 59, .tmp 60]) rfl ?_); at_builtin; refine Kd.R_append (Kd.int .u8) (w0 := w) base rfl (.tmp 59) (.tmp 60) 22 5 (.int .u8 0) 1 rfl Try.underlying22 info8 rfl (by decide) (by omega) (.slice AB B.length cB) B 0 [.int .u8 0] ok (fun _ => False) rfl rfl rfl (fun _ hk => hk.elim) (fun k hk => HFR.out k (by omega)) H3.out HB.out (by omega) (by omega) ?_; intro v5 w5 ho5 hb5 hg5 hat5; obtain ⟨A5, cp5, hv5, _, _⟩ := Kd.R_reads ho5; obtain ⟨m5, hm5⟩ : ∃ m, (B ++ [(0 : Int)]).length = m := ⟨_, rfl⟩; rw [hm5] at hv5; subst hv5; have h5g := (hg5.block g hgl HNB.out).trans H1.out; have c5 := cell_cellsN h5g 1 (by simp); have f5 := frozen_cellsN h5g 1; dsimp only [List.getElem_toArray, List.getElem_cons_zero, List.getElem_cons_succ] at c5; have HO5 := Lib.hid ho5; have HG5 := Lib.hid hg5; have HB5 := Lib.hid hb5; have H5G := Lib.hid h5g; have HC5 := Lib.hid (R_apart H4.out H3.out bool_u8 hg5); have HP5 := Lib.hid ((hg5.block w.heap.size hPl HNP.out).trans HP.out); clear ho5 hg5 hb5 hat5 h5g hm5)
      have HS5 := Lib.hid (show (w5.setCell ⟨g, 1, none⟩ (.slice A5 m5 cp5)).heap[g]? = some (.cells #[.int .i64 r.win, .slice A5 m5 cp5, .slice AC C.length cC, .int .i64 r.read] 54 (0, 0)) from set_cellsN 1 H5G.out rfl)
      have hs5 := HG5.out.size
      obtain ⟨X6, hX6⟩ : ∃ X6, w5.setCell ⟨g, 1, none⟩ (.slice A5 m5 cp5) = X6 := ⟨_, rfl⟩
      have hs6 : w5.heap.size ≤ X6.heap.size ∧ X6.heap.size ≤ w5.heap.size := by rw [← hX6]; simp [World.setCell]
      have HC6 := Lib.hid (show Kd.bool.R 4 X6 base ok (.slice AC C.length cC) C from by rw [← hX6]; exact Kd.R_set HC5.out H5G.out bool_E 1 _)
      have HO6 := Lib.hid (show (Kd.int .u8).R 5 X6 base ok (.slice A5 m5 cp5) (B ++ [0]) from by rw [← hX6]; exact Kd.R_set HO5.out H5G.out u8_Er 1 _)
      have HP6 := Lib.hid (show PBox w.heap.size off A l.length c X6 from by rw [← hX6]; exact (Below.heap_setCell _ _ _ _ (show w.heap.size ≠ g by omega)).trans HP5.out)
      have HB6 := Lib.hid (show Below base w X6 from by rw [← hX6]; exact HB5.out.setCell (p := ⟨g, 1, none⟩) h2.2 _)
      have hOff6 : Off ok w X6 := by rw [← hX6]; exact HO.out.trans ((Off.grown HG5.out (fun k hk => H3.out.1 k hk)).trans (Off.set w5 (p := ⟨g, 1, none⟩) h2.1 _))
      have HOF6 := Lib.hid hOff6
      have H6G := HS5.out
      rw [hX6] at H6G
      have y2 := cell_cellsN H6G 2 (by simp)
      dsimp only [List.getElem_toArray, List.getElem_cons_zero, List.getElem_cons_succ] at y2
      have H6G := Lib.hid H6G
      have HNC := Lib.hid (Kd.R_ne HC6.out H6G.out (by decide))
      have HNP6 := Lib.hid (Kd.R_ne HC6.out HP6.out (by decide))
      have hPl6 : w.heap.size < X6.heap.size := (Array.getElem?_eq_some_iff.1 HP6.out).1
      rw [hX6]
      clear hX6 c5 f5 x1 x2 hOff6
      go_wp2_with ((with_reducible refine gate_builtin (b := .append) (xs := #[.tmp 68, .tmp 69]) rfl ?_); at_builtin; refine Kd.R_append Kd.bool (w0 := w) base rfl (.tmp 68) (.tmp 69) 52 4 (.bool false) 1 rfl Try.underlying52 infoB rfl (by decide) (by omega) (.slice AC C.length cC) C false [.bool false] ok (fun _ => False) rfl rfl rfl (fun _ hk => hk.elim) (fun k hk => HFR.out k (by omega)) HC6.out HB6.out (by omega) (by omega) ?_; intro v7 w7 ho7 hb7 hg7 hat7; obtain ⟨A7, cp7, hv7, _, _⟩ := Kd.R_reads ho7; obtain ⟨m7, hm7⟩ : ∃ m, (C ++ [false]).length = m := ⟨_, rfl⟩; rw [hm7] at hv7; subst hv7; have h7g := (hg7.block g (by omega) HNC.out).trans H6G.out; have c7 := cell_cellsN h7g 2 (by simp); have f7 := frozen_cellsN h7g 2; dsimp only [List.getElem_toArray, List.getElem_cons_zero, List.getElem_cons_succ] at c7; have HO7 := Lib.hid ho7; have HG7 := Lib.hid hg7; have HB7 := Lib.hid hb7; have H7G := Lib.hid h7g; have HC7 := Lib.hid (R_apart HO6.out HC6.out u8_bool hg7); have HP7 := Lib.hid ((hg7.block w.heap.size hPl6 HNP6.out).trans HP6.out); clear ho7 hg7 hb7 hat7 h7g hm7)
      go_roundg (gk - 1)
      case measure => omega
      case rel =>
        refine ⟨B ++ [0], C ++ [false], by rw [List.length_append, List.length_singleton]; omega, by rw [List.length_append, List.length_singleton]; omega, Lib.hid (fits_grow HF.out (by omega)), Lib.hid ⟨_, _, set_cellsN 2 H7G.out rfl, Kd.R_set HC7.out H7G.out u8_Er 2 _, Kd.R_set HO7.out H7G.out bool_E 2 _⟩, Lib.hid ((Below.heap_setCell _ _ _ _ (show w.heap.size ≠ g by omega)).trans HP7.out), Lib.hid (HOF6.out.trans ((Off.grown HG7.out (fun k hk => HC6.out.1 k hk)).trans (Off.set w7 (p := ⟨g, 2, none⟩) h2.1 _))), Lib.hid (HB7.out.setCell (p := ⟨g, 2, none⟩) h2.2 _)⟩
    · have k1 : decide ((B.length : Int) < (en : Int)) = false := decide_eq_false (by omega)
      have k1n : decide (B.length < en) = false := decide_eq_false hlt
      clear h1 h3 h4 hBC
      go_wp2
      go_loopg [6] (l.length : Nat) (fun kq v6 wr => ∃ (i : Nat) (B : List Int) (C : List Bool), v6 = .int .i64 i ∧ i + kq = l.length ∧ en ≤ B.length ∧ Hid (Fits (fillG r.G off (l.take i)) B C) ∧ Hid (RqMid base g r.win r.read B C wr ok) ∧ Hid (PBox w.heap.size off A l.length c wr) ∧ Hid (Off ok w wr) ∧ Hid (Below base w wr))
      case atStart => exact ⟨0, B, C, rfl, by omega, by omega, Lib.hid (by rw [List.take_zero, fill_nil]; exact HF.out), HM, HP, HO, HB⟩
      case round =>
        obtain ⟨i, B, C, rfl, hik, hBe2, HF2, HM2, HP2, HO2, HB2⟩ := hrel
        obtain ⟨vB, vC, h1, h3, h4⟩ := HM2.out
        have p0 := cell_cellsN HP2.out 0 (by simp)
        have p1 := cell_cellsN HP2.out 1 (by simp)
        dsimp only [List.getElem_toArray, List.getElem_cons_zero, List.getElem_cons_succ] at p0 p1
        by_cases hlt2 : i < l.length
        · have z1 : decide ((i : Int) < (l.length : Int)) = true := decide_eq_true (by omega)
          have z2 : (i : Int) < (l.length : Int) := by omega
          obtain ⟨j, hj⟩ : ∃ j, off + i = j := ⟨_, rfl⟩
          have hBC := HF2.out.1
          have hjB : j < B.length := by omega
          have hjC : j < C.length := by omega
          obtain ⟨gB, cB, rfl, hgB, _, cellsB, hcB⟩ := Kd.R_form h3 (by omega)
          obtain ⟨gC, cC, rfl, hgC, _, cellsC, hcC⟩ := Kd.R_form h4 (by omega)
          have x1 := cell_cellsN h1 1 (by simp)
          have x2 := cell_cellsN h1 2 (by simp)
          dsimp only [List.getElem_toArray, List.getElem_cons_zero, List.getElem_cons_succ] at x1 x2
          have e3 : IntKind.i64.wrap ((off : Int) + (i : Int)) = (j : Int) := by rw [i64_of (by omega)]; omega
          obtain ⟨uC, fC⟩ := Kd.R_cell false h4 (j : Int) (by omega) (by omega)
          rw [Int.toNat_natCast, rdOf_get C j hjC, fits_came HF2.out hjC, ← hj, fill_at, hj] at uC
          have hj0 : (0 : Int) ≤ (j : Int) ∧ (j : Int) < (C.length : Int) ∧ (j : Int) < (B.length : Int) := by omega
          have HJ := Lib.hid hj
          have H1 := Lib.hid h1
          have H3 := Lib.hid h3
          have H4 := Lib.hid h4
          cases hGj : r.G j with
          | some x0 =>
            rw [hGj] at uC
            have uC : wr.cell? ⟨gC, j, none⟩ = some (.bool true) := uC
            have HS := Lib.hid (show fillG r.G off (l.take (i + 1)) = fillG r.G off (l.take i) from fill_some (by rw [hj]; exact hGj))
            clear h1 h3 h4 hcB hcC hj hGj hBC
            go_wp2
            go_quiet (fail)
            go_wp2
            go_roundg (gk - 1)
            case measure => omega
            case rel => exact ⟨i + 1, B, C, by go_num, by omega, hBe2, Lib.hid (by rw [HS.out]; exact HF2.out), Lib.hid (HM2.out.step h2.1 (fun _ _ _ => rfl)), Lib.hid HP2.out, Lib.hid HO2.out, Lib.hid (below_drN HB2.out nq)⟩
          | none =>
            rw [hGj] at uC
            have uC : wr.cell? ⟨gC, j, none⟩ = some (.bool false) := uC
            have HS := Lib.hid (show fillG r.G off (l.take (i + 1)) = upd (fillG r.G off (l.take i)) j l[i] from by rw [← hj]; exact fill_none hlt2 (by rw [hj]; exact hGj))
            obtain ⟨ad, rfl, hcell⟩ := cell_of_C (HR.out wr HB2.out) i hlt2 rfl
            obtain ⟨x, hx⟩ : ∃ x, l[i] = x := ⟨_, rfl⟩
            rw [hx] at hcell
            have HX := Lib.hid hx
            obtain ⟨uB, fB⟩ := Kd.R_cell (0 : Int) h3 (j : Int) (by omega) (by omega)
            rw [Int.toNat_natCast] at uB fB fC
            have hgBC : gB ≠ gC := fun e => by
              rw [e, hcC] at hcB
              injection hcB with hcB
              injection hcB with _ hcB
              exact absurd hcB (by decide)
            have hgg : g ≠ gB := fun e => by
              rw [← e, h1] at hcB
              injection hcB with hcB
              injection hcB with _ hcB
              exact absurd hcB (by decide)
            have hggC : g ≠ gC := fun e => by
              rw [← e, h1] at hcC
              injection hcC with hcC
              injection hcC with _ hcC
              exact absurd hcC (by decide)
            have hPB : w.heap.size ≠ gB := fun e => by
              have h := HP2.out
              unfold PBox at h
              rw [e, hcB] at h
              injection h with h
              injection h with _ h
              exact absurd h (by decide)
            have hPC : w.heap.size ≠ gC := fun e => by
              have h := HP2.out
              unfold PBox at h
              rw [e, hcC] at h
              injection h with h
              injection h with _ h
              exact absurd h (by decide)
            clear h1 h3 h4 hcB hcC hj hGj hBC hx
            go_wp2
            go_quiet (fail)
            obtain ⟨U, hU⟩ : ∃ U, wr.drewN nq = U := ⟨_, rfl⟩
            have kU : ∀ a : Addr, U.cell? a = wr.cell? a := fun a => by rw [← hU]; rfl
            have kF : ∀ a : Addr, U.frozen? a = wr.frozen? a := fun a => by rw [← hU]; rfl
            have HU := Lib.hid hU
            have y1 := (kU _).trans x1
            have y2 := (kU _).trans x2
            have q0 := (kU _).trans p0
            have q1 := (kU _).trans p1
            have ycell := (kU _).trans hcell
            have yB := (kU _).trans uB
            have yC := (kU _).trans uC
            have yfB := (kF _).trans fB
            have yfC := (kF _).trans fC
            rw [hU]
            clear hU kU kF x1 x2 p0 p1 hcell uB uC fB fC
            go_wp2
            go_still_tail 14, (by kernel_rfl)
            change wpList _ _ _ _ _ U.drew
            go_wp2
            obtain ⟨V1, hV1⟩ : ∃ V1, (U.setCell ⟨gB, j, none⟩ (.int .u8 x)).drew = V1 := ⟨_, rfl⟩
            have kV : ∀ b : Nat, b ≠ gB → V1.heap[b]? = U.heap[b]? := fun b hb => by rw [← hV1]; exact Below.heap_setCell _ _ _ _ hb
            have t2 : V1.cell? ⟨g, 2, none⟩ = _ := (World.cell?_of_block (w := U) (a := ⟨g, 2, none⟩) (kV g hgg)).trans y2
            have t0 : V1.cell? ⟨w.heap.size, 0, none⟩ = _ := (World.cell?_of_block (w := U) (a := ⟨w.heap.size, 0, none⟩) (kV _ hPB)).trans q0
            have tC : V1.cell? ⟨gC, j, none⟩ = _ := (World.cell?_of_block (w := U) (a := ⟨gC, j, none⟩) (kV _ (fun e => hgBC e.symm))).trans yC
            have tfC : V1.frozen? ⟨gC, j, none⟩ = _ := (World.frozen?_of_block (w := U) (a := ⟨gC, j, none⟩) (kV _ (fun e => hgBC e.symm))).trans yfC
            have HV1 := Lib.hid hV1
            rw [hV1]
            clear hV1 kV y1 y2 q0 q1 ycell yB yC yfB yfC
            go_still_tail 9, (by kernel_rfl)
            change wpList _ _ _ _ _ V1.drew
            go_wp2
            go_roundg (gk - 1)
            case measure => omega
            case rel =>
              have hU := HU.out
              obtain ⟨u1, u2, u3, u4⟩ := mid_put (U := U) (w := w) (j := j) (x := x) (by rw [← hU]; exact H1.out) (by rw [← hU]; exact Kd.R_step H3.out (fun _ _ _ => rfl)) (by rw [← hU]; exact Kd.R_step H4.out (fun _ _ _ => rfl)) HV1.out hgg hggC hgB hgC (by rw [← hU]; exact HO2.out) (by rw [← hU]; exact below_drN HB2.out nq)
              refine ⟨i + 1, B.set j x, C.set j true, by go_num, by omega, by rw [List.length_set]; exact hBe2, Lib.hid ?_, Lib.hid u1, Lib.hid ((u4 _ hPB hPC).trans (by rw [← hU]; exact HP2.out)), Lib.hid u2, Lib.hid u3⟩
              rw [HS.out, HX.out]
              exact fits_put HF2.out j x hjB
        · have z1 : decide ((i : Int) < (l.length : Int)) = false := decide_eq_false (by omega)
          have hil : i = l.length := by omega
          have HIL := Lib.hid hil
          clear h1 h3 h4 hil
          go_wp2
          go_ret
          obtain ⟨vB, vC, t1, t3, t4⟩ := HM2.out
          have hf := HF2.out
          rw [HIL.out, List.take_length] at hf
          exact ⟨rfl, ⟨vB, vC, B, C, t1, h2, t3, t4, hf, HH'.out.1, HH'.out.2⟩, HO2.out, HB2.out⟩
end Go.Proofs.Ytgkcncdanhkkoaa.Fw
