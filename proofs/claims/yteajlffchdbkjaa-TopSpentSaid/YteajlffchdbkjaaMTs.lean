/-
  TopSpent, plain: what all circuits forwarded together. Conditions: as the theorems state them.
  TopSpent walked. Conditions: numbers are of their kinds; what came in is read.
  TopSpent, as its row wants it. No condition.
-/
import Derived.Test.YteajlffchdbkjaaMNo
import Derived.Test.YteajlffchdbkjaaMTp
import Derived.Deep.QuietTactic
import Derived.BigQuiet
import Derived.Laws.MakeOwn
namespace Go.Proofs.Yteajlffchdbkjaa.Re
open Go.RowKit Go.Maps Go.Shelf Go.Proofs.Yteajlffchdbkjaa.Rv Go.Proofs.Yteajlffchdbkjaa.Ci Go.Proofs.Yteajlffchdbkjaa.Sp Go.Proofs.YteajlffchdbkjaaW.PrintWords Go.Proofs.YteajlffchdbkjaaW.PrintLast Go.Proofs.YteajlffchdbkjaaW.PrintMore
set_option linter.unusedVariables false
set_option linter.unusedSimpArgs false
def totC : List CirP → Int
  | [] => 0
  | c :: r => c.2.2.2.2.1 + c.2.2.2.2.2 + totC r
theorem totC_app : ∀ (L : List CirP) (c : CirP), totC (L ++ [c]) = totC L + (c.2.2.2.2.1 + c.2.2.2.2.2)
  | [], c => by simp [totC]
  | x :: r, c => by show _ + totC (r ++ [c]) = _ + totC r + _; rw [totC_app r c]; omega
theorem totC_erase : ∀ (L : List CirP) (i : Nat) (hi : i < L.length), totC (L.eraseIdx i) = totC L - (L[i].2.2.2.2.1 + L[i].2.2.2.2.2)
  | [], i, hi => absurd hi (Nat.not_lt_zero i)
  | x :: r, 0, _ => by show totC r = _ + totC r - _; simp; omega
  | x :: r, i + 1, hi => by
    show _ + totC (r.eraseIdx i) = _ + totC r - _
    rw [totC_erase r i (by simpa using hi)]
    simp
    omega
theorem totC_set : ∀ (L : List CirP) (i : Nat) (hi : i < L.length) (c : CirP), totC (L.set i c) = totC L - (L[i].2.2.2.2.1 + L[i].2.2.2.2.2) + (c.2.2.2.2.1 + c.2.2.2.2.2)
  | [], i, hi, _ => absurd hi (Nat.not_lt_zero i)
  | x :: r, 0, _, c => by show _ + totC r = _ + totC r - _ + _; simp; omega
  | x :: r, i + 1, hi, c => by
    show _ + totC (r.set i c) = _ + totC r - _ + _
    rw [totC_set r i (by simpa using hi) c]
    simp
    omega
def inD (D : Int) (c : CirP) : Prop := (0 ≤ c.2.2.2.2.1 ∧ c.2.2.2.2.1 ≤ D) ∧ (0 ≤ c.2.2.2.2.2 ∧ c.2.2.2.2.2 ≤ D) ∧ 0 < c.2.2.2.1
theorem totC_le {D : Int} : ∀ {L : List CirP}, (∀ c ∈ L, inD D c) → totC L ≤ 2 * D * L.length
  | [], _ => by simp [totC]
  | c :: r, h => by
    have h1 := h c (by simp)
    have h2 := totC_le (L := r) (fun x hx => h x (List.mem_cons_of_mem _ hx))
    unfold inD at h1
    have e : 2 * D * ((c :: r).length : Int) = 2 * D * r.length + 2 * D := by rw [List.length_cons]; push_cast; rw [Int.mul_add, Int.mul_one]
    rw [e]
    show _ + totC r ≤ _
    omega
structure SpInv (l : LimV) (s : RelS) (sum : Int) : Prop where
  own : s.own = 900
  lim : s.l = l
  now : s.now = 0
  ind : ∀ c ∈ s.C, inD l.2.2.2.2.2 c
  room : (s.C.length : Int) ≤ l.2.2.1
  pos : 0 ≤ sum
  sum : sum ≤ totC s.C + 2 * l.2.2.2.2.2 * (s.last - s.C.length)
theorem SpInv.live {l : LimV} {s : RelS} {sum : Int} (h : SpInv l s sum) : liveC s.C 0 = s.C ∧ goneC s.C 0 = [] := live_all (fun c hc => (h.ind c hc).2.2)
theorem SpInv.most {l : LimV} {s : RelS} {sum : Int} (h : SpInv l s sum) : sum ≤ 2 * l.2.2.2.2.2 * s.last := by
  have h1 := totC_le h.ind
  have h2 := h.sum
  have e : 2 * l.2.2.2.2.2 * s.last = 2 * l.2.2.2.2.2 * s.C.length + 2 * l.2.2.2.2.2 * (s.last - s.C.length) := by rw [← Int.mul_add]; congr 1; omega
  rw [e]
  omega
theorem ne_of {x : Int} (h : (x == 0) = false) : x ≠ 0 := fun e => by rw [e] at h; cases h
theorem sp_new {l : LimV} (h : 0 ≤ l.2.2.1) : SpInv l (newS 900 l []) 0 :=
  ⟨rfl, rfl, rfl, (fun c hc => by cases hc), h, Int.le_refl 0, by show (0 : Int) ≤ 0 + 2 * l.2.2.2.2.2 * (0 - ((0 : Nat) : Int)); simp⟩
theorem sp_res {l : LimV} {s : RelS} {sum : Int} (h : SpInv l s sum) (p host : Int) : SpInv l (ResT s 0 p host).2.2 sum ∧ (ResT s 0 p host).2.2.last = s.last := by
  unfold ResT
  split
  · exact ⟨h, rfl⟩
  · unfold ResF
    split
    · exact ⟨⟨h.own, h.lim, rfl, h.ind, h.room, h.pos, h.sum⟩, rfl⟩
    · exact ⟨⟨h.own, h.lim, rfl, h.ind, h.room, h.pos, h.sum⟩, rfl⟩
theorem sp_con {l : LimV} {s : RelS} {sum : Int} (h : SpInv l s sum) (hm : mayL l = true) (a b : Int) :
    SpInv l (ConT s 0 a b).2.2 sum ∧ (((ConT s 0 a b).2.1 = 0 ∧ (ConT s 0 a b).1 = s.last + 1 ∧ (ConT s 0 a b).2.2.last = s.last + 1) ∨ ((ConT s 0 a b).2.1 ≠ 0 ∧ (ConT s 0 a b).2.2.last = s.last)) := by
  have hml := (mayL_iff l).1 hm
  obtain ⟨hlv, hgn⟩ := h.live
  unfold ConT
  by_cases hb : conBad s 0 a b
  · rw [if_pos hb]
    exact ⟨h, .inr ⟨ne_of rfl, rfl⟩⟩
  · rw [if_neg hb]
    unfold ConF
    by_cases hh : hasL (overL s.R 0) b = true
    · have hlive := (getL_live hh).2
      rw [if_pos hh, hlv, hgn, List.append_nil, h.lim]
      obtain ⟨u, hu⟩ : ∃ u, (getL (overL s.R 0) b).2.2 = u := ⟨_, rfl⟩
      rw [hu] at hlive ⊢
      obtain ⟨f1, f2, f3⟩ := openG_all l.2.2.1 l.2.2.2.2.1 s.C s.last 0 a b (u + 30)
      cases hany : s.C.any (isBetween a b) with
      | true =>
        rw [f1 hany]
        exact ⟨⟨h.own, rfl, rfl, h.ind, h.room, h.pos, h.sum⟩, .inr ⟨ne_of rfl, rfl⟩⟩
      | false =>
        by_cases hc : l.2.2.1 ≤ (s.C.length : Int)
        · rw [f2 hany hc]
          exact ⟨⟨h.own, rfl, rfl, h.ind, h.room, h.pos, h.sum⟩, .inr ⟨ne_of rfl, rfl⟩⟩
        · rw [f3 hany hc]
          refine ⟨⟨h.own, rfl, rfl, fun c hc2 => ?_, ?_, h.pos, ?_⟩, .inl ⟨rfl, rfl, rfl⟩⟩
          · rcases List.mem_append.1 hc2 with hc2 | hc2
            · exact h.ind c hc2
            · rw [List.mem_singleton.1 hc2]
              refine ⟨⟨Int.le_refl 0, hml.2.2.2.2.1⟩, ⟨Int.le_refl 0, hml.2.2.2.2.1⟩, ?_⟩
              dsimp only
              split <;> omega
          · show ((s.C ++ [_]).length : Int) ≤ _
            rw [List.length_append, List.length_singleton]; omega
          · show sum ≤ totC (s.C ++ [_]) + 2 * l.2.2.2.2.2 * (s.last + 1 - ((s.C ++ [_]).length : Int))
            rw [totC_app, List.length_append, List.length_singleton, show s.last + 1 - ((s.C.length + 1 : Nat) : Int) = s.last - s.C.length by omega]
            have := h.sum
            dsimp only
            omega
    · rw [if_neg hh]
      exact ⟨⟨h.own, h.lim, rfl, h.ind, h.room, h.pos, h.sum⟩, .inr ⟨ne_of rfl, rfl⟩⟩
theorem sp_fwd {l : LimV} {s : RelS} {sum : Int} (h : SpInv l s sum) (no frm size : Int) (hs : 0 ≤ size) :
    ((FwdF s 0 no frm size).2.1 = 0 ∧ size ≤ l.2.2.2.2.2 ∧ SpInv l (FwdF s 0 no frm size).2.2 (sum + size) ∨ (FwdF s 0 no frm size).2.1 ≠ 0 ∧ SpInv l (FwdF s 0 no frm size).2.2 sum) ∧ (FwdF s 0 no frm size).2.2.last = s.last := by
  obtain ⟨hlv, hgn⟩ := h.live
  have hsum := h.sum
  have hroom := h.room
  refine ⟨?_, rfl⟩
  unfold FwdF
  rw [hlv, hgn, List.append_nil, h.lim]
  dsimp only
  have same : SpInv l { s with l := l, now := 0, C := s.C, G := s.G, tC := 0 } sum := ⟨h.own, rfl, rfl, h.ind, h.room, h.pos, h.sum⟩
  have gone : ∀ i, i < s.C.length → SpInv l { s with l := l, now := 0, C := s.C.eraseIdx i, G := s.G, tC := 0 } sum := fun i hi => by
    have hc := h.ind _ (List.getElem_mem hi)
    unfold inD at hc
    refine ⟨h.own, rfl, rfl, fun c hc2 => h.ind c (List.mem_of_mem_eraseIdx hc2), ?_, h.pos, ?_⟩
    · show ((s.C.eraseIdx i).length : Int) ≤ _
      rw [List.length_eraseIdx, if_pos hi]; omega
    · show sum ≤ totC (s.C.eraseIdx i) + 2 * l.2.2.2.2.2 * (s.last - ((s.C.eraseIdx i).length : Int))
      rw [totC_erase _ i hi, List.length_eraseIdx, if_pos hi, show s.last - ((s.C.length - 1 : Nat) : Int) = (s.last - s.C.length) + 1 by omega, Int.mul_add, Int.mul_one]
      omega
  have more : ∀ i (hi : i < s.C.length) (c' : CirP), inD l.2.2.2.2.2 c' → c'.2.2.2.2.1 + c'.2.2.2.2.2 = s.C[i].2.2.2.2.1 + s.C[i].2.2.2.2.2 + size → SpInv l { s with l := l, now := 0, C := s.C.set i c', G := s.G, tC := 0 } (sum + size) := fun i hi c' hc' he => by
    refine ⟨h.own, rfl, rfl, fun c hc2 => ?_, ?_, ?_, ?_⟩
    · rcases List.mem_or_eq_of_mem_set hc2 with hc2 | rfl
      · exact h.ind c hc2
      · exact hc'
    · show ((s.C.set i c').length : Int) ≤ _
      rw [List.length_set]; exact h.room
    · have := h.pos; show 0 ≤ sum + size; omega
    · show sum + size ≤ totC (s.C.set i c') + 2 * l.2.2.2.2.2 * (s.last - ((s.C.set i c').length : Int))
      rw [totC_set _ i hi, List.length_set]
      omega
  unfold fwdG
  split
  · exact .inr ⟨ne_of rfl, same⟩
  · rename_i c hc
    have hi : (posC s.C no).toNat < s.C.length := (List.getElem?_eq_some_iff.1 hc).1
    have hci : s.C[(posC s.C no).toNat] = c := (List.getElem?_eq_some_iff.1 hc).2
    have hin := h.ind c (by rw [← hci]; exact List.getElem_mem hi)
    unfold inD at hin
    split
    · exact .inr ⟨ne_of rfl, same⟩
    · split
      · split
        · exact .inr ⟨ne_of rfl, gone _ hi⟩
        · exact .inl ⟨rfl, by omega, more _ hi _ (by unfold inD; dsimp only; omega) (by rw [hci]; dsimp only; omega)⟩
      · split
        · exact .inr ⟨ne_of rfl, gone _ hi⟩
        · exact .inl ⟨rfl, by omega, more _ hi _ (by unfold inD; dsimp only; omega) (by rw [hci]; dsimp only; omega)⟩
theorem sp_st {l : LimV} {s : RelS} {sum : Int} (h : SpInv l s sum) : SpInv l (StF s 0) sum ∧ (StF s 0).last = s.last ∧ liveC s.C 0 = s.C := by
  obtain ⟨hlv, hgn⟩ := h.live
  refine ⟨?_, rfl, hlv⟩
  unfold StF
  rw [hlv]
  exact ⟨h.own, h.lim, rfl, h.ind, h.room, h.pos, h.sum⟩
end Go.Proofs.Yteajlffchdbkjaa.Re
namespace Go.Proofs.Yteajlffchdbkjaa.Re
open Go.RowKit Go.Maps Go.Shelf Go.Proofs.Yteajlffchdbkjaa.Rv Go.Proofs.Yteajlffchdbkjaa.Ci Go.Proofs.Yteajlffchdbkjaa.Sp Go.Proofs.YteajlffchdbkjaaW.PrintWords Go.Proofs.YteajlffchdbkjaaW.PrintLast Go.Proofs.YteajlffchdbkjaaW.PrintMore
set_option linter.unusedVariables false
set_option linter.unusedSimpArgs false
attribute [local go_sem] Oper.semAt_some
theorem made8 (V : World) (n : Nat) (hn : n ≤ 255) : (Instr.makeSlice 36 (.int .i64 n) (.int .i64 n)).run Try.prog V = .ok (.slice (some ⟨V.heap.size, 0, none⟩) n n) (V.alloc (.cells (madeCells (Value.int .u8 0).cells n) 5)) := by
  obtain ⟨i, hi, hz, hs, hb⟩ := info_parts (show (Try.prog.info? 5).map (fun i => (i.zero, i.size, i.bytes)) = some (some (.int .u8 0), 1, 1) by kernel_rfl)
  have h := run_makeSlice (P := Try.prog) (w := V) 36 5 i (.int .u8 0) Try.underlying36 hi hz .i64 .i64 n n (by omega) (by omega) (by rw [hs, Int.toNat_natCast]; omega) (by rw [hb]; omega) (by omega)
  rw [Int.toNat_natCast, hs, Nat.mul_one] at h
  exact h
theorem byte_at {V W : World} {A : Option Addr} {n : Nat} {l : List Int} (h : (Kd.int .u8).C W A n l) (hn : n = l.length) (hv : Below W.heap.size W V) (i : Nat) (hi : i < l.length) : ∃ ad, A = some ad ∧ V.cell? (ad.add i) = some (.int .u8 l[i]) := By.cell_of_C (Kd.C_below h hv) i hi hn
theorem six_mod (x : Int) (h : 0 ≤ x ∧ x ≤ 255) : ∃ q : Int, Int.tmod (wrap64 x) 6 = q ∧ 0 ≤ q ∧ q ≤ 5 := by
  refine ⟨_, rfl, ?_⟩
  rw [show wrap64 x = x by unfold wrap64; omega, Int.tmod_eq_emod_of_nonneg h.1]; omega
theorem six_div (x : Int) (h : 0 ≤ x ∧ x ≤ 255) : ∃ q2 q3 : Int, Int.tdiv (wrap64 x) 6 = q2 ∧ wrap64 q2 = q2 ∧ Int.tmod q2 6 = q3 ∧ 0 ≤ q3 ∧ q3 ≤ 5 := by
  refine ⟨_, _, rfl, ?_, rfl, ?_⟩
  · rw [show wrap64 x = x by unfold wrap64; omega, Int.tdiv_eq_ediv_of_nonneg h.1]; unfold wrap64; omega
  · rw [show wrap64 x = x by unfold wrap64; omega, Int.tdiv_eq_ediv_of_nonneg h.1, Int.tmod_eq_emod_of_nonneg (by omega)]; omega
theorem some_mod (x : Int) (n : Nat) (h : 0 ≤ x) (hn : 0 < n) : ∃ j : Nat, Int.tmod x n = (j : Int) ∧ j < n := by
  refine ⟨(x % n).toNat, ?_, ?_⟩
  · rw [Int.tmod_eq_emod_of_nonneg h]
    have := Int.emod_nonneg x (show (n : Int) ≠ 0 by omega)
    omega
  · have h1 := Int.emod_lt_of_pos x (show (0 : Int) < n by omega)
    have h2 := Int.emod_nonneg x (show (n : Int) ≠ 0 by omega)
    omega
theorem prod_le {x y : Int} (hx : 0 ≤ x ∧ x ≤ 1000) (hy : 0 ≤ y ∧ y ≤ 2147483648) : 0 ≤ x * y ∧ x * y ≤ 4398046511104 := by
  have h1 := Int.mul_nonneg hx.1 hy.1
  have h2 : x * y ≤ 1000 * 2147483648 := Int.mul_le_mul hx.2 hy.2 hy.1 (by decide)
  omega
set_option maxRecDepth 100000 in
set_option maxHeartbeats 16000000 in
theorem spent_calls (w : World) (a b c d e f : Int) (Aw : Option Addr) (nw cw : Nat) (lw : List Int) (As : Option Addr) (ns cs : Nat) (ls : List Int) (hw1 : (Kd.int .u8).C w Aw nw lw) (hw2 : nw = lw.length) (hw3 : ∀ x ∈ lw, 0 ≤ x ∧ x ≤ 255) (hs1 : (Kd.int .u8).C w As ns ls) (hs2 : ns = ls.length) (hs3 : ∀ x ∈ ls, 0 ≤ x ∧ x ≤ 255) :
    Calls Try.prog 4 #[.agg #[.int .i64 a, .int .i64 b, .int .i64 c, .int .i64 d, .int .i64 e, .int .i64 f], .slice Aw nw cw, .slice As ns cs] w fun en w' => en = .returned (.bool true) ∧ Below w.heap.size w w' := by
  obtain ⟨W, hW⟩ : ∃ W, w.alloc (.cells #[.int .i64 a, .int .i64 b, .int .i64 c, .int .i64 d, .int .i64 e, .int .i64 f] 23) = W := ⟨_, rfl⟩
  have hbW : Below w.heap.size w W := by rw [← hW]; exact (Below.refl _ w).alloc (Nat.le_refl _) _
  have hbl : W.heap[w.heap.size]? = some (.cells #[.int .i64 a, .int .i64 b, .int .i64 c, .int .i64 d, .int .i64 e, .int .i64 f] 23 (0, 0)) := by rw [← hW]; exact new_cellsN w _ _
  have hlt : w.heap.size < W.heap.size := (Array.getElem?_eq_some_iff.1 hbl).1
  have LC := Lib.hid (fun (V : World) (hV : Below W.heap.size W V) => limC_cells ((hV.block _ hlt).trans hbl))
  have HBW := Lib.hid hbW
  have HLT := Lib.hid hlt
  have CW := Lib.hid (fun (V : World) (hV : Below W.heap.size W V) (i : Nat) (hi : i < lw.length) => byte_at hw1 hw2 (hbW.trans (hV.mono (Nat.le_of_lt hlt))) i hi)
  have CS := Lib.hid (fun (V : World) (hV : Below W.heap.size W V) (i : Nat) (hi : i < ls.length) => byte_at hs1 hs2 (hbW.trans (hV.mono (Nat.le_of_lt hlt))) i hi)
  have HW3 := Lib.hid hw3
  have HS3 := Lib.hid hs3
  have HNW := Lib.hid hw2
  have HNS := Lib.hid hs2
  have q25 := ptr_nil
  have KM := Lib.hid (fun V => refmay_calls V a b c d e f)
  clear hw1 hw2 hw3 hs1 hs2 hs3 hbl hbW hlt
  go_enter Try.func4, Try.ntmps4
  go_upto_region 3 with (go_at_call 8; refine (trusted_calls _).mono ?_; rintro en w1 ⟨rfl, hb1⟩; have HB1 := Lib.hid hb1; clear hb1)
  clear hW
  obtain ⟨c0, c1, c2, c3, c4, c5⟩ := LC.out w1 HB1.out
  have KM1 := KM.out w1
  cases hm : mayL (a, b, c, d, e, f) with
  | false =>
    rw [hm] at KM1
    have KM1 := Lib.hid KM1
    go_wp2_with (go_at_call 9; (with_reducible refine KM1.out.mono ?_); rintro en w2 ⟨rfl, hb2⟩; have HB2 := Lib.hid (HB1.out.trans (hb2.mono HB1.out.size)); clear hb2)
    go_ret
    exact ⟨rfl, HBW.out.trans (HB2.out.mono (Nat.le_of_lt HLT.out))⟩
  | true =>
    rw [hm] at KM1
    have KM1 := Lib.hid KM1
    have HM := Lib.hid hm
    have hml := (mayL_iff (a, b, c, d, e, f)).1 hm
    have HML := Lib.hid hml
    clear hm hml
    by_cases h100 : nw > 100
    · have b1 : decide (nw > 100) = true := decide_eq_true h100
      have b1' : decide ((nw : Int) > 100) = true := decide_eq_true (by omega)
      go_wp2_with (go_at_call 9; (with_reducible refine KM1.out.mono ?_); rintro en w2 ⟨rfl, hb2⟩; have HB2 := Lib.hid (HB1.out.trans (hb2.mono HB1.out.size)); clear hb2)
      go_ret
      exact ⟨rfl, HBW.out.trans (HB2.out.mono (Nat.le_of_lt HLT.out))⟩
    · have b1 : decide (nw > 100) = false := decide_eq_false h100
      have b1' : decide ((nw : Int) > 100) = false := decide_eq_false (by omega)
      by_cases hz : ns = 0
      · have b2 : ((ns : Int) == 0) = true := by subst hz; rfl
        go_wp2_with (go_at_call 9; (with_reducible refine KM1.out.mono ?_); rintro en w2 ⟨rfl, hb2⟩; have HB2 := Lib.hid (HB1.out.trans (hb2.mono HB1.out.size)); clear hb2)
        go_ret
        exact ⟨rfl, HBW.out.trans (HB2.out.mono (Nat.le_of_lt HLT.out))⟩
      · have b2 : ((ns : Int) == 0) = false := beq_eq_false_iff_ne.2 (by omega)
        have hns0 : 0 < ns := by omega
        go_upto_region 5 with (go_at_call 9; (with_reducible refine KM1.out.mono ?_); rintro en w2 ⟨rfl, hb2⟩; have HB2 := Lib.hid (HB1.out.trans (hb2.mono HB1.out.size)); clear hb2)
        clear c0 c1 c2 c3 c4 c5 b1 b1' b2 hz
        obtain ⟨d0, d1, d2, d3, d4, d5⟩ := LC.out w2 HB2.out
        refine wp_region_held_drew (S := fun w' => w'.cell? ⟨w.heap.size, 0, none⟩ = some (.int .i64 a) ∧ w'.cell? ⟨w.heap.size, 1, none⟩ = some (.int .i64 b) ∧ w'.cell? ⟨w.heap.size, 2, none⟩ = some (.int .i64 c) ∧ w'.cell? ⟨w.heap.size, 3, none⟩ = some (.int .i64 d) ∧ w'.cell? ⟨w.heap.size, 4, none⟩ = some (.int .i64 e) ∧ w'.cell? ⟨w.heap.size, 5, none⟩ = some (.int .i64 f)) (by kernel_rfl) ?_ (fun hHeld => ?_)
        · exact ⟨d0, d1, d2, d3, d4, d5⟩
        refine wpAnyH_take (i := 0) (v := ?_) rfl (by kernel_rfl) (by kernel_rfl) (by kernel_rfl) (fun _ _ _ h => h) (Or.inl ⟨by rfl, ?_⟩) (by assumption) ?_
        rotate_left
        · (intro w hSw; (try dsimp only at hSw); go_simp; try with_reducible rfl)
        try simp only [Act.put, List.setIfInBounds_toArray, List.set_cons_zero, List.set_cons_succ, List.getElem_toArray, List.getElem_cons_succ, List.getElem_cons_zero]
        refine wpAnyH_ready (rs := [1]) (by kernel_rfl) (by simp) ?_
        refine AllReadyH.cons rfl (fun K hK => ?_) AllReadyH.nil
        go_simp
        go_at_call 10; refine (Nt.one_new _).mono ?_; rintro en w3 ⟨gN, rfl, hN, hb⟩; have HN := Lib.hid hN; have HB3 := Lib.hid (show Below W.heap.size W w3 from (HB2.out.trans (drew_below w2 |>.mono HB2.out.size)).trans (hb.mono HB2.out.size)); have hl3 := LC.out w3 HB3.out; clear hN hb
        refine hK.out _ _ ?_ (fun hHeld => ?_)
        · exact hl3
        clear hK K
        try simp only [Act.put, List.setIfInBounds_toArray, List.set_cons_zero, List.set_cons_succ, List.getElem_toArray, List.getElem_cons_succ, List.getElem_cons_zero]
        refine wpAnyH_ready (rs := [2]) (by kernel_rfl) (by simp) ?_
        refine AllReadyH.cons rfl (fun K hK => ?_) AllReadyH.nil
        go_simp
        go_at_call 11; refine (new_k 900 a b c d e f gN HN.out HM.out (by decide)).mono ?_; rintro en w4 ⟨r, rfl, hr, hb⟩; have HK4 := Lib.hid (hr.sub (fun k hk => Nat.lt_of_lt_of_le hk HB2.out.size)); have HB4 := Lib.hid (show Below W.heap.size W w4 from HB3.out.trans (hb.mono HB3.out.size)); have hl4 := LC.out w4 HB4.out; clear hr hb
        refine hK.out _ _ ?_ (fun hHeld => ?_)
        · exact hl4
        clear hK K
        try simp only [Act.put, List.setIfInBounds_toArray, List.set_cons_zero, List.set_cons_succ, List.getElem_toArray, List.getElem_cons_succ, List.getElem_cons_zero]
        refine wpAnyH_take (i := 3) (v := ?_) rfl (by kernel_rfl) (by kernel_rfl) (by kernel_rfl) (fun _ _ _ h => h) (Or.inl ⟨by rfl, ?_⟩) (by assumption) ?_
        rotate_left
        · (intro w hSw; (try dsimp only at hSw); go_simp; try with_reducible rfl)
        try simp only [Act.put, List.setIfInBounds_toArray, List.set_cons_zero, List.set_cons_succ, List.getElem_toArray, List.getElem_cons_succ, List.getElem_cons_zero]
        refine wpAnyH_take (i := 4) (v := ?_) rfl (by kernel_rfl) (by kernel_rfl) (by kernel_rfl) (fun _ _ _ h => h) (Or.inl ⟨by rfl, ?_⟩) (by assumption) ?_
        rotate_left
        · (intro w hSw; (try dsimp only at hSw); go_simp; try with_reducible rfl)
        try simp only [Act.put, List.setIfInBounds_toArray, List.set_cons_zero, List.set_cons_succ, List.getElem_toArray, List.getElem_cons_succ, List.getElem_cons_zero]
        refine wpAnyH_take (i := 5) (v := ?_) rfl (by kernel_rfl) (by kernel_rfl) (by kernel_rfl) (fun _ _ _ h => h) (Or.inl ⟨by rfl, ?_⟩) (by assumption) ?_
        rotate_left
        · (intro w hSw; (try dsimp only at hSw); go_simp; try with_reducible rfl)
        try simp only [Act.put, List.setIfInBounds_toArray, List.set_cons_zero, List.set_cons_succ, List.getElem_toArray, List.getElem_cons_succ, List.getElem_cons_zero]
        refine wpAnyH_take (i := 6) (v := ?_) rfl (by kernel_rfl) (by kernel_rfl) (by kernel_rfl) (fun _ _ _ h => h) (Or.inl ⟨by rfl, ?_⟩) (by assumption) ?_
        rotate_left
        · (intro w hSw; (try dsimp only at hSw); go_simp; try with_reducible rfl)
        try simp only [Act.put, List.setIfInBounds_toArray, List.set_cons_zero, List.set_cons_succ, List.getElem_toArray, List.getElem_cons_succ, List.getElem_cons_zero]
        refine wpAnyH_take (i := 7) (v := ?_) rfl (by kernel_rfl) (by kernel_rfl) (by kernel_rfl) (fun _ _ _ h => h) (Or.inl ⟨by rfl, ?_⟩) (by assumption) ?_
        rotate_left
        · (intro w hSw; (try dsimp only at hSw); go_simp; try with_reducible rfl)
        try simp only [Act.put, List.setIfInBounds_toArray, List.set_cons_zero, List.set_cons_succ, List.getElem_toArray, List.getElem_cons_succ, List.getElem_cons_zero]
        refine wpAnyH_done (by kernel_rfl) ?_ _
        clear d0 d1 d2 d3 d4 d5
        go_upto_region 9 with fail
        go_loopw [9] (fun x9 wr => ∃ (p : Nat) (s : RelS), x9 = .int .i64 p ∧ 1 ≤ p ∧ p ≤ 7 ∧ Hid (SpInv (a, b, c, d, e, f) s 0 ∧ s.last = 0) ∧ Hid (RelK p wr r gN s (fun k => k < W.heap.size)) ∧ Hid (Below W.heap.size W wr)) (fun x9 _ => 7 - (intOf x9).toNat)
        case atStart => exact ⟨1, _, rfl, by omega, by omega, Lib.hid ⟨sp_new HML.out.2.2.1.1, rfl⟩, Lib.hid (HK4.out.mono (by omega)), HB4⟩
        case round =>
          obtain ⟨p, s, rfl, hp1, hp7, HI, HKr, HBr⟩ := hrel
          by_cases hlt : p ≤ 6
          · have b1 : decide ((p : Int) ≤ 6) = true := decide_eq_true (by omega)
            have KR := Lib.hid (fun host => res_k HKr.out (by omega) 0 (p : Int) host)
            have hsp := Lib.hid (fun host => sp_res HI.out.1 (p : Int) host)
            go_wp2_with (go_at_call 12; (with_reducible refine (KR.out _).mono ?_); rintro en w6 ⟨v, sz, rfl, hR, hsz, hk, hkp⟩; have HK6 := Lib.hid (hk.sub (fun k (e : k < W.heap.size) => .inl e)); have HB6 := Lib.hid (show Below W.heap.size W w6 from HBr.out.trans (hkp.toBelow (fun i hi => hi) HBr.out.size)); clear hR hsz hk hkp)
            go_roundw
            case rel => exact ⟨p + 1, _, by go_num, by omega, by omega, Lib.hid ⟨(hsp.out _).1, (hsp.out _).2.trans HI.out.2⟩, HK6, HB6⟩
            case measure => simp [intOf]; omega
          · have b1 : decide ((p : Int) ≤ 6) = false := decide_eq_false (by omega)
            obtain rfl : p = 7 := by omega
            go_upto_region 16 with fail
            go_loopw [10, 11, 12, 13] (fun x10 x11 x12 x13 wr => ∃ (i : Nat) (s : RelS) (sum la : Int), x10 = .int .i64 la ∧ x11 = .int .i64 sum ∧ x12 = .int .i64 la ∧ x13 = .int .i64 i ∧ i ≤ nw ∧ 0 ≤ la ∧ la ≤ i ∧ Hid (SpInv (a, b, c, d, e, f) s sum) ∧ Hid (s.last = la) ∧ Hid (RelK (7 + i) wr r gN s (fun k => k < W.heap.size)) ∧ Hid (Below W.heap.size W wr)) (fun _ _ _ x13 _ => nw - (intOf x13).toNat)
            case atStart => exact ⟨0, s, 0, 0, rfl, rfl, rfl, rfl, Nat.zero_le _, Int.le_refl _, Int.le_refl _, Lib.hid HI.out.1, Lib.hid HI.out.2, HKr, HBr⟩
            case round =>
              clear HI HKr HBr
              obtain ⟨i, s, sum, la, rfl, rfl, rfl, rfl, hin, hl0, hl1, HI, HLA, HKr, HBr⟩ := hrel
              by_cases hlt : i < nw
              · have b1 : decide ((i : Int) < (nw : Int)) = true := decide_eq_true (by omega)
                have hnw : nw ≤ 100 := by omega
                obtain ⟨ad, rfl, hx⟩ := CW.out wr HBr.out i (by rw [← HNW.out]; exact hlt)
                obtain ⟨x, hxv⟩ : ∃ x, lw[i]'(by rw [← HNW.out]; exact hlt) = x := ⟨_, rfl⟩
                have hxb := HW3.out x (by rw [← hxv]; exact List.getElem_mem _)
                rw [hxv] at hx
                obtain ⟨q1, hq1, hq1a, hq1b⟩ := six_mod x hxb
                obtain ⟨q2, q3, hq2, hq2w, hq3, hq3a, hq3b⟩ := six_div x hxb
                have hltI : (i : Int) < (nw : Int) := by omega
                clear hxv hxb
                go_upto_region 20 with fail
                clear hx hq1 hq2 hq3 hq2w
                have k7 := con_k HKr.out (by omega) 0 (1 + q1) (1 + q3)
                have hsp := sp_con HI.out HM.out (1 + q1) (1 + q3)
                unfold ConK at k7
                obtain ⟨⟨no, h, s'⟩, hq⟩ : ∃ q, ConT s 0 (1 + q1) (1 + q3) = q := ⟨_, rfl⟩
                rw [hq] at hsp k7
                rw [HLA.out] at hsp
                obtain ⟨hI2, hcc⟩ := hsp
                dsimp only at hI2 hcc
                have HI2 := Lib.hid hI2
                have K7 := Lib.hid k7
                clear hI2 k7 hq
                rcases hcc with ⟨h1, h2, h3⟩ | ⟨h1, h3⟩
                · have HL2 := Lib.hid h3
                  subst h1 h2
                  have b2 : decide (la + 1 ≤ la) = false := decide_eq_false (by omega)
                  clear h3
                  go_upto_region 27 with (go_at_call 14; (with_reducible refine K7.out.mono ?_); rintro en w7 ⟨rfl, hk, hkp⟩; have HK7 := Lib.hid hk; have HB7 := Lib.hid (show Below W.heap.size W w7 from HBr.out.trans (hkp.toBelow (fun i hi => hi) HBr.out.size)); clear hk hkp)
                  go_loopw [11, 18] (fun x11 x18 wr => ∃ (cn : Nat) (s2 : RelS) (sum2 : Int), x11 = .int .i64 sum2 ∧ x18 = .int .i64 cn ∧ 1 ≤ cn ∧ (cn : Int) ≤ la + 1 + 1 ∧ Hid (SpInv (a, b, c, d, e, f) s2 sum2) ∧ Hid (s2.last = (la + 1)) ∧ Hid (RelK (8 + i) wr r gN s2 (fun k => k < W.heap.size)) ∧ Hid (Below W.heap.size W wr)) (fun _ x18 _ => (la + 1 + 1).toNat - (intOf x18).toNat)
                  case atStart => exact ⟨1, s', sum, rfl, rfl, Nat.le_refl _, by omega, HI2, HL2, Lib.hid (HK7.out.mono (by omega)), HB7⟩
                  case round =>
                    obtain ⟨cn, s2, sum2, rfl, rfl, hc1, hc2, HI3, HL3, HK3, HB3'⟩ := hrel
                    by_cases hc : (cn : Int) ≤ (la + 1)
                    · have b3 : decide ((cn : Int) ≤ (la + 1)) = true := decide_eq_true hc
                      obtain ⟨j, hj1, hj2⟩ := some_mod ((i : Int) + cn) ns (by omega) hns0
                      have HJ1 := Lib.hid hj1
                      clear hj1
                      obtain ⟨ad2, rfl, hy⟩ := CS.out wr HB3'.out j (by rw [← HNS.out]; exact hj2)
                      obtain ⟨y, hyv⟩ : ∃ y, ls[j]'(by rw [← HNS.out]; exact hj2) = y := ⟨_, rfl⟩
                      have hyb := HS3.out y (by rw [← hyv]; exact List.getElem_mem _)
                      rw [hyv] at hy
                      obtain ⟨yn, rfl⟩ := Int.eq_ofNat_of_zero_le hyb.1
                      have hyn : yn ≤ 255 := by omega
                      have qw : wrap64 (yn : Int) = yn := by unfold wrap64; omega
                      have qmk := made8 wr yn hyn
                      have hn0 : ¬ (ns : Int) = 0 := by omega
                      have hjI : (j : Int) < (ns : Int) := by omega
                      have KF := Lib.hid (fun (X : World) (A : Option Addr) (hb : Below wr.heap.size wr X) => fwd_k (HK3.out.step hb) (show 8 + i ≤ 9000 by omega) 0 (cn : Int) (1 + q1) A yn yn (by rw [HI3.out.now]; exact Int.le_refl _) (by decide) (Nat.le_trans hyn (by decide)))
                      have hsf := sp_fwd HI3.out cn (1 + q1) (yn : Int) (Int.natCast_nonneg _)
                      unfold FwdK at KF
                      obtain ⟨⟨too, g, s3⟩, hq⟩ : ∃ q, FwdF s2 0 cn (1 + q1) yn = q := ⟨_, rfl⟩
                      rw [hq] at hsf KF
                      obtain ⟨hcc, hl4⟩ := hsf
                      (try dsimp only at hcc hl4)
                      have HL4 := Lib.hid (hl4.trans HL3.out)
                      have hsb : 0 ≤ sum2 := HI3.out.pos
                      have hsm : sum2 ≤ 4398046511104 := by
                        have h1 := HI3.out.most
                        rw [HL3.out] at h1
                        have h2 := (prod_le (x := (la + 1)) (y := 2 * f) ⟨by omega, by omega⟩ ⟨by have := HML.out.2.2.2.2; (try dsimp only at this); omega, by have := HML.out.2.2.2.2; (try dsimp only at this); omega⟩)
                        have e : 2 * f * (la + 1) = (la + 1) * (2 * f) := Int.mul_comm _ _
                        (try dsimp only at h1)
                        omega
                      clear hyv hyb hq hl4
                      rcases hcc with ⟨hg, hd1, hI4⟩ | ⟨hg, hI4⟩
                      · have HI4 := Lib.hid hI4
                        subst hg
                        have b4 : decide ((yn : Int) > f) = false := decide_eq_false (by (try dsimp only at hd1); omega)
                        clear hI4
                        have hj1 := HJ1.out
                        go_wp2_with (go_at_call 15; (with_reducible refine (KF.out _ _ ((Below.refl _ _).alloc (Nat.le_refl _) _)).mono ?_); rintro en w8 ⟨rfl, hk, hkp⟩; have HK8 := Lib.hid (hk.sub (fun k (e : k < W.heap.size) => .inl e)); have HB8 := Lib.hid (show Below W.heap.size W w8 from HB3'.out.trans (((Below.refl _ _).alloc (Nat.le_refl _) _ |>.mono HB3'.out.size).trans (hkp.toBelow (fun i hi => .inl hi) (by have := HB3'.out.size; simp; omega)))); obtain ⟨e0, e1, e2, e3, e4, e5⟩ := LC.out w8 HB8.out; clear hk hkp)
                        clear hj1
                        go_roundw
                        case rel => exact ⟨cn + 1, s3, sum2 + yn, rfl, by go_num, by omega, by omega, HI4, HL4, HK8, HB8⟩
                        case measure => simp [intOf]; omega
                      · have HI4 := Lib.hid hI4
                        have b4 : (g == 0) = false := by simpa using hg
                        clear hI4 hg
                        have hj1 := HJ1.out
                        go_wp2_with (go_at_call 15; (with_reducible refine (KF.out _ _ ((Below.refl _ _).alloc (Nat.le_refl _) _)).mono ?_); rintro en w8 ⟨rfl, hk, hkp⟩; have HK8 := Lib.hid (hk.sub (fun k (e : k < W.heap.size) => .inl e)); have HB8 := Lib.hid (show Below W.heap.size W w8 from HB3'.out.trans (((Below.refl _ _).alloc (Nat.le_refl _) _ |>.mono HB3'.out.size).trans (hkp.toBelow (fun i hi => .inl hi) (by have := HB3'.out.size; simp; omega)))); clear hk hkp)
                        clear hj1
                        go_roundw
                        case rel => exact ⟨cn + 1, s3, sum2, rfl, by go_num, by omega, by omega, HI4, HL4, HK8, HB8⟩
                        case measure => simp [intOf]; omega
                    · have b3 : decide ((cn : Int) ≤ (la + 1)) = false := decide_eq_false hc
                      have k8 := st_k HK3.out (show 8 + i ≤ 9000 by omega) 0 (by rw [HI3.out.now]; exact Int.le_refl _) (by decide)
                      unfold StK at k8
                      have hst := sp_st HI3.out
                      rw [hst.2.2] at k8
                      have HST := Lib.hid hst
                      have K8 := Lib.hid k8
                      have hsb : 0 ≤ sum2 := HI3.out.pos
                      have hmost := HI3.out.most
                      rw [HL3.out] at hmost
                      clear k8 hst hc
                      go_upto_region 37 with (go_at_call 16; (with_reducible refine K8.out.mono ?_); rintro en w9 ⟨v1, v2, sz, rfl, ho1, ho2, hz, hk, hkp⟩; have HO2 := Lib.hid ho2; have HK9 := Lib.hid (hk.sub (fun k (e : k < W.heap.size) => .inl e)); have HB9 := Lib.hid (show Below W.heap.size W w9 from HB3'.out.trans (hkp.toBelow (fun i hi => hi) HB3'.out.size)); clear ho1 ho2 hz hk hkp)
                      obtain ⟨A4, c4', hv4, hra⟩ := row_at (own_lower HO2.out (Nat.zero_le _))
                      have HRA := Lib.hid hra
                      obtain ⟨n4, hn4⟩ : ∃ n, s2.C.length = n := ⟨_, rfl⟩
                      rw [hn4] at hv4
                      subst hv4
                      have HN4 := Lib.hid hn4
                      have hn4b : (n4 : Int) ≤ c := by rw [← hn4]; exact HI3.out.room
                      have hn4c : (n4 : Int) ≤ 100 := by have := HML.out.2.2.1.2; (try dsimp only at this); omega
                      clear hra hn4
                      go_loopw [24] (fun x24 wr => ∃ k : Nat, x24 = .int .i64 k ∧ k ≤ n4 ∧ Hid (Below w9.heap.size w9 wr)) (fun x24 _ => n4 - (intOf x24).toNat)
                      case atStart => exact ⟨0, rfl, Nat.zero_le _, Lib.hid (Below.refl _ _)⟩
                      case round =>
                        obtain ⟨k, rfl, hk4, HB10⟩ := hrel
                        obtain ⟨e0, e1, e2, e3, e4, e5⟩ := LC.out wr (HB9.out.trans (HB10.out.mono HB9.out.size))
                        by_cases hk : k < n4
                        · have b4 : decide ((k : Int) < (n4 : Int)) = true := decide_eq_true (by omega)
                          have hkL : k < s2.C.length := by rw [HN4.out]; exact hk
                          obtain ⟨gr, rfl, hxx⟩ : ∃ gr, A4 = some ⟨gr, 0, none⟩ ∧ Hid (∀ j (hj : j < 6), wr.cell? ⟨gr, k * 6 + j, none⟩ = (cirC s2.C[k])[j]?) := by
                            rcases HRA.out with h | ⟨gr, h1, _, h2, h3⟩
                            · omega
                            · exact ⟨gr, h1, Lib.hid (fun j hj => h3 wr (HB10.out.block gr h2) k hkL j hj)⟩
                          have hind := HI3.out.ind _ (List.getElem_mem hkL)
                          obtain ⟨⟨z0, z1, z2, z3, z4, z5⟩, hzz⟩ : ∃ q, s2.C[k] = q := ⟨_, rfl⟩
                          have x4 : wr.cell? ⟨gr, k * 6 + 4, none⟩ = some (.int .i64 z4) := by have h := hxx.out 4 (by omega); rw [hzz] at h; exact h
                          have x5 : wr.cell? ⟨gr, k * 6 + 5, none⟩ = some (.int .i64 z5) := by have h := hxx.out 5 (by omega); rw [hzz] at h; exact h
                          have x5' : wr.cell? ⟨gr, k * 6 + 4 + 1, none⟩ = some (.int .i64 z5) := x5
                          rw [hzz] at hind
                          unfold inD at hind
                          (try dsimp only at hind)
                          have b5 : decide (z4 > f) = false := decide_eq_false (by omega)
                          have b6 : decide (z5 > f) = false := decide_eq_false (by omega)
                          have hkI : (k : Int) < (n4 : Int) := by omega
                          clear hzz hind
                          go_upto_region 39 with fail
                          go_quiet (fail)
                          revert nq
                          intro n1
                          clear x4 x5 x5' e0 e1 e2 e3 e4 e5 b5 b6
                          go_wp2
                          go_roundw
                          case rel => exact ⟨k + 1, by go_num, by omega, Lib.hid (HB10.out.trans ⟨rfl, rfl, rfl, Nat.le_refl _, fun _ _ => rfl⟩)⟩
                          case measure => simp [intOf]; omega
                        · have b4 : decide ((k : Int) < (n4 : Int)) = false := decide_eq_false (by omega)
                          have b5 : decide ((n4 : Int) > c) = false := decide_eq_false (by omega)
                          obtain ⟨pr, hpr⟩ : ∃ pr, 2 * (la + 1) * f = pr := ⟨_, rfl⟩
                          have hprb := prod_le (x := 2 * (la + 1)) (y := f) ⟨by omega, by omega⟩ (by have := HML.out.2.2.2.2; (try dsimp only at this); omega)
                          rw [hpr] at hprb
                          have hm2 : wrap64 pr = pr := by unfold wrap64; omega
                          have hle : sum2 ≤ pr := by
                            rw [← hpr]
                            (try dsimp only at hmost)
                            have e : 2 * f * (la + 1) = 2 * (la + 1) * f := by rw [Int.mul_assoc, Int.mul_comm f, ← Int.mul_assoc]
                            rw [← e]; exact hmost
                          have b6 : decide (sum2 > pr) = false := decide_eq_false (by omega)
                          clear hmost hle
                          go_wp2
                          clear hpr hprb hm2 b4 b5 b6
                          go_roundw
                          case rel =>
                            refine ⟨_, _, _, _, _, _, _, _, _, _, _, _, _, _, _, _, _, _, _, _, _, _, _, _, _, _, _, _, _, _, _, _, _, _, _, _, _, _, _, _, _, _, _, _, _, _, _, _, _, _, _, _, _, _, _, _, _, _, _, _, _, _, _, _, _, _, _, _, _, _, _, _, _, _, _, _, _, _, _, _, _, _, _, _, _, _, _, _, _, _, _, _, _, _, _, _, _, _, _, _, _, _, _, _, _, _, _, _, _, _, _, _, _, _, _, _, _, _, _, _, _, _, _, _, _, _, _, _, _, _, ?_, rfl⟩
                            exact ⟨i + 1, _, sum2, (la + 1), rfl, rfl, rfl, by go_num, by omega, by omega, by omega, Lib.hid HST.out.1, Lib.hid (HST.out.2.1.trans HL3.out), Lib.hid ((HK9.out.step HB10.out).sub (fun _ e => .inl e) |>.mono (by omega)), Lib.hid (HB9.out.trans (HB10.out.mono HB9.out.size))⟩
                          case measure => simp [intOf]; omega
                · have HL2 := Lib.hid h3
                  have b2 : (h == 0) = false := by simpa using h1
                  clear h1 h3
                  go_upto_region 27 with (go_at_call 14; (with_reducible refine K7.out.mono ?_); rintro en w7 ⟨rfl, hk, hkp⟩; have HK7 := Lib.hid hk; have HB7 := Lib.hid (show Below W.heap.size W w7 from HBr.out.trans (hkp.toBelow (fun i hi => hi) HBr.out.size)); clear hk hkp)
                  go_loopw [11, 18] (fun x11 x18 wr => ∃ (cn : Nat) (s2 : RelS) (sum2 : Int), x11 = .int .i64 sum2 ∧ x18 = .int .i64 cn ∧ 1 ≤ cn ∧ (cn : Int) ≤ la + 1 ∧ Hid (SpInv (a, b, c, d, e, f) s2 sum2) ∧ Hid (s2.last = la) ∧ Hid (RelK (8 + i) wr r gN s2 (fun k => k < W.heap.size)) ∧ Hid (Below W.heap.size W wr)) (fun _ x18 _ => (la + 1).toNat - (intOf x18).toNat)
                  case atStart => exact ⟨1, s', sum, rfl, rfl, Nat.le_refl _, by omega, HI2, HL2, Lib.hid (HK7.out.mono (by omega)), HB7⟩
                  case round =>
                    obtain ⟨cn, s2, sum2, rfl, rfl, hc1, hc2, HI3, HL3, HK3, HB3'⟩ := hrel
                    by_cases hc : (cn : Int) ≤ la
                    · have b3 : decide ((cn : Int) ≤ la) = true := decide_eq_true hc
                      obtain ⟨j, hj1, hj2⟩ := some_mod ((i : Int) + cn) ns (by omega) hns0
                      have HJ1 := Lib.hid hj1
                      clear hj1
                      obtain ⟨ad2, rfl, hy⟩ := CS.out wr HB3'.out j (by rw [← HNS.out]; exact hj2)
                      obtain ⟨y, hyv⟩ : ∃ y, ls[j]'(by rw [← HNS.out]; exact hj2) = y := ⟨_, rfl⟩
                      have hyb := HS3.out y (by rw [← hyv]; exact List.getElem_mem _)
                      rw [hyv] at hy
                      obtain ⟨yn, rfl⟩ := Int.eq_ofNat_of_zero_le hyb.1
                      have hyn : yn ≤ 255 := by omega
                      have qw : wrap64 (yn : Int) = yn := by unfold wrap64; omega
                      have qmk := made8 wr yn hyn
                      have hn0 : ¬ (ns : Int) = 0 := by omega
                      have hjI : (j : Int) < (ns : Int) := by omega
                      have KF := Lib.hid (fun (X : World) (A : Option Addr) (hb : Below wr.heap.size wr X) => fwd_k (HK3.out.step hb) (show 8 + i ≤ 9000 by omega) 0 (cn : Int) (1 + q1) A yn yn (by rw [HI3.out.now]; exact Int.le_refl _) (by decide) (Nat.le_trans hyn (by decide)))
                      have hsf := sp_fwd HI3.out cn (1 + q1) (yn : Int) (Int.natCast_nonneg _)
                      unfold FwdK at KF
                      obtain ⟨⟨too, g, s3⟩, hq⟩ : ∃ q, FwdF s2 0 cn (1 + q1) yn = q := ⟨_, rfl⟩
                      rw [hq] at hsf KF
                      obtain ⟨hcc, hl4⟩ := hsf
                      (try dsimp only at hcc hl4)
                      have HL4 := Lib.hid (hl4.trans HL3.out)
                      have hsb : 0 ≤ sum2 := HI3.out.pos
                      have hsm : sum2 ≤ 4398046511104 := by
                        have h1 := HI3.out.most
                        rw [HL3.out] at h1
                        have h2 := (prod_le (x := la) (y := 2 * f) ⟨by omega, by omega⟩ ⟨by have := HML.out.2.2.2.2; (try dsimp only at this); omega, by have := HML.out.2.2.2.2; (try dsimp only at this); omega⟩)
                        have e : 2 * f * la = la * (2 * f) := Int.mul_comm _ _
                        (try dsimp only at h1)
                        omega
                      clear hyv hyb hq hl4
                      rcases hcc with ⟨hg, hd1, hI4⟩ | ⟨hg, hI4⟩
                      · have HI4 := Lib.hid hI4
                        subst hg
                        have b4 : decide ((yn : Int) > f) = false := decide_eq_false (by (try dsimp only at hd1); omega)
                        clear hI4
                        have hj1 := HJ1.out
                        go_wp2_with (go_at_call 15; (with_reducible refine (KF.out _ _ ((Below.refl _ _).alloc (Nat.le_refl _) _)).mono ?_); rintro en w8 ⟨rfl, hk, hkp⟩; have HK8 := Lib.hid (hk.sub (fun k (e : k < W.heap.size) => .inl e)); have HB8 := Lib.hid (show Below W.heap.size W w8 from HB3'.out.trans (((Below.refl _ _).alloc (Nat.le_refl _) _ |>.mono HB3'.out.size).trans (hkp.toBelow (fun i hi => .inl hi) (by have := HB3'.out.size; simp; omega)))); obtain ⟨e0, e1, e2, e3, e4, e5⟩ := LC.out w8 HB8.out; clear hk hkp)
                        clear hj1
                        go_roundw
                        case rel => exact ⟨cn + 1, s3, sum2 + yn, rfl, by go_num, by omega, by omega, HI4, HL4, HK8, HB8⟩
                        case measure => simp [intOf]; omega
                      · have HI4 := Lib.hid hI4
                        have b4 : (g == 0) = false := by simpa using hg
                        clear hI4 hg
                        have hj1 := HJ1.out
                        go_wp2_with (go_at_call 15; (with_reducible refine (KF.out _ _ ((Below.refl _ _).alloc (Nat.le_refl _) _)).mono ?_); rintro en w8 ⟨rfl, hk, hkp⟩; have HK8 := Lib.hid (hk.sub (fun k (e : k < W.heap.size) => .inl e)); have HB8 := Lib.hid (show Below W.heap.size W w8 from HB3'.out.trans (((Below.refl _ _).alloc (Nat.le_refl _) _ |>.mono HB3'.out.size).trans (hkp.toBelow (fun i hi => .inl hi) (by have := HB3'.out.size; simp; omega)))); clear hk hkp)
                        clear hj1
                        go_roundw
                        case rel => exact ⟨cn + 1, s3, sum2, rfl, by go_num, by omega, by omega, HI4, HL4, HK8, HB8⟩
                        case measure => simp [intOf]; omega
                    · have b3 : decide ((cn : Int) ≤ la) = false := decide_eq_false hc
                      have k8 := st_k HK3.out (show 8 + i ≤ 9000 by omega) 0 (by rw [HI3.out.now]; exact Int.le_refl _) (by decide)
                      unfold StK at k8
                      have hst := sp_st HI3.out
                      rw [hst.2.2] at k8
                      have HST := Lib.hid hst
                      have K8 := Lib.hid k8
                      have hsb : 0 ≤ sum2 := HI3.out.pos
                      have hmost := HI3.out.most
                      rw [HL3.out] at hmost
                      clear k8 hst hc
                      go_upto_region 37 with (go_at_call 16; (with_reducible refine K8.out.mono ?_); rintro en w9 ⟨v1, v2, sz, rfl, ho1, ho2, hz, hk, hkp⟩; have HO2 := Lib.hid ho2; have HK9 := Lib.hid (hk.sub (fun k (e : k < W.heap.size) => .inl e)); have HB9 := Lib.hid (show Below W.heap.size W w9 from HB3'.out.trans (hkp.toBelow (fun i hi => hi) HB3'.out.size)); clear ho1 ho2 hz hk hkp)
                      obtain ⟨A4, c4', hv4, hra⟩ := row_at (own_lower HO2.out (Nat.zero_le _))
                      have HRA := Lib.hid hra
                      obtain ⟨n4, hn4⟩ : ∃ n, s2.C.length = n := ⟨_, rfl⟩
                      rw [hn4] at hv4
                      subst hv4
                      have HN4 := Lib.hid hn4
                      have hn4b : (n4 : Int) ≤ c := by rw [← hn4]; exact HI3.out.room
                      have hn4c : (n4 : Int) ≤ 100 := by have := HML.out.2.2.1.2; (try dsimp only at this); omega
                      clear hra hn4
                      go_loopw [24] (fun x24 wr => ∃ k : Nat, x24 = .int .i64 k ∧ k ≤ n4 ∧ Hid (Below w9.heap.size w9 wr)) (fun x24 _ => n4 - (intOf x24).toNat)
                      case atStart => exact ⟨0, rfl, Nat.zero_le _, Lib.hid (Below.refl _ _)⟩
                      case round =>
                        obtain ⟨k, rfl, hk4, HB10⟩ := hrel
                        obtain ⟨e0, e1, e2, e3, e4, e5⟩ := LC.out wr (HB9.out.trans (HB10.out.mono HB9.out.size))
                        by_cases hk : k < n4
                        · have b4 : decide ((k : Int) < (n4 : Int)) = true := decide_eq_true (by omega)
                          have hkL : k < s2.C.length := by rw [HN4.out]; exact hk
                          obtain ⟨gr, rfl, hxx⟩ : ∃ gr, A4 = some ⟨gr, 0, none⟩ ∧ Hid (∀ j (hj : j < 6), wr.cell? ⟨gr, k * 6 + j, none⟩ = (cirC s2.C[k])[j]?) := by
                            rcases HRA.out with h | ⟨gr, h1, _, h2, h3⟩
                            · omega
                            · exact ⟨gr, h1, Lib.hid (fun j hj => h3 wr (HB10.out.block gr h2) k hkL j hj)⟩
                          have hind := HI3.out.ind _ (List.getElem_mem hkL)
                          obtain ⟨⟨z0, z1, z2, z3, z4, z5⟩, hzz⟩ : ∃ q, s2.C[k] = q := ⟨_, rfl⟩
                          have x4 : wr.cell? ⟨gr, k * 6 + 4, none⟩ = some (.int .i64 z4) := by have h := hxx.out 4 (by omega); rw [hzz] at h; exact h
                          have x5 : wr.cell? ⟨gr, k * 6 + 5, none⟩ = some (.int .i64 z5) := by have h := hxx.out 5 (by omega); rw [hzz] at h; exact h
                          have x5' : wr.cell? ⟨gr, k * 6 + 4 + 1, none⟩ = some (.int .i64 z5) := x5
                          rw [hzz] at hind
                          unfold inD at hind
                          (try dsimp only at hind)
                          have b5 : decide (z4 > f) = false := decide_eq_false (by omega)
                          have b6 : decide (z5 > f) = false := decide_eq_false (by omega)
                          have hkI : (k : Int) < (n4 : Int) := by omega
                          clear hzz hind
                          go_upto_region 39 with fail
                          go_quiet (fail)
                          revert nq
                          intro n1
                          clear x4 x5 x5' e0 e1 e2 e3 e4 e5 b5 b6
                          go_wp2
                          go_roundw
                          case rel => exact ⟨k + 1, by go_num, by omega, Lib.hid (HB10.out.trans ⟨rfl, rfl, rfl, Nat.le_refl _, fun _ _ => rfl⟩)⟩
                          case measure => simp [intOf]; omega
                        · have b4 : decide ((k : Int) < (n4 : Int)) = false := decide_eq_false (by omega)
                          have b5 : decide ((n4 : Int) > c) = false := decide_eq_false (by omega)
                          obtain ⟨pr, hpr⟩ : ∃ pr, 2 * (la) * f = pr := ⟨_, rfl⟩
                          have hprb := prod_le (x := 2 * (la)) (y := f) ⟨by omega, by omega⟩ (by have := HML.out.2.2.2.2; (try dsimp only at this); omega)
                          rw [hpr] at hprb
                          have hm2 : wrap64 pr = pr := by unfold wrap64; omega
                          have hle : sum2 ≤ pr := by
                            rw [← hpr]
                            (try dsimp only at hmost)
                            have e : 2 * f * (la) = 2 * (la) * f := by rw [Int.mul_assoc, Int.mul_comm f, ← Int.mul_assoc]
                            rw [← e]; exact hmost
                          have b6 : decide (sum2 > pr) = false := decide_eq_false (by omega)
                          clear hmost hle
                          go_wp2
                          clear hpr hprb hm2 b4 b5 b6
                          go_roundw
                          case rel =>
                            refine ⟨_, _, _, _, _, _, _, _, _, _, _, _, _, _, _, _, _, _, _, _, _, _, _, _, _, _, _, _, _, _, _, _, _, _, _, _, _, _, _, _, _, _, _, _, _, _, _, _, _, _, _, _, _, _, _, _, _, _, _, _, _, _, _, _, _, _, _, _, _, _, _, _, _, _, _, _, _, _, _, _, _, _, _, _, _, _, _, _, _, _, _, _, _, _, _, _, _, _, _, _, _, _, _, _, _, _, _, _, _, _, _, _, _, _, _, _, _, _, _, _, _, _, _, _, _, _, _, _, _, _, ?_, rfl⟩
                            exact ⟨i + 1, _, sum2, la, rfl, rfl, rfl, by go_num, by omega, by omega, by omega, Lib.hid HST.out.1, Lib.hid (HST.out.2.1.trans HL3.out), Lib.hid ((HK9.out.step HB10.out).sub (fun _ e => .inl e) |>.mono (by omega)), Lib.hid (HB9.out.trans (HB10.out.mono HB9.out.size))⟩
                          case measure => simp [intOf]; omega
              · have b1 : decide ((i : Int) < (nw : Int)) = false := decide_eq_false (by omega)
                go_wp2
                go_ret
                exact ⟨rfl, HBW.out.trans (HBr.out.mono (Nat.le_of_lt HLT.out))⟩
end Go.Proofs.Yteajlffchdbkjaa.Re
namespace Go.Proofs.Yteajlffchdbkjaa.Re
open Go.RowKit Go.Maps Go.Shelf Go.Proofs.Yteajlffchdbkjaa.Rv Go.Proofs.YteajlffchdbkjaaW.PrintWords
set_option linter.unusedVariables false
theorem spent_row (cs : Array Value) (x : LimV) (Aw : Option Addr) (cw : Nat) (lw : List Int) (As : Option Addr) (cv : Nat) (ls : List Int) (w : World) (hr : dLim.K w x (Value.agg cs).cells.toList) (hw : True)
    (h1 : (Kd.int .u8).C w Aw lw.length lw) (c1 : lw.length ≤ cw) (y1 : lw.length * 1 ≤ 140737488351232) (z1 : ∀ n ∈ lw, (Lit.int .u8 n).wf = true) (h2 : (Kd.int .u8).C w As ls.length ls) (c2 : ls.length ≤ cv) (y2 : ls.length * 1 ≤ 140737488351232) (z2 : ∀ n ∈ ls, (Lit.int .u8 n).wf = true) :
    Calls Try.prog 4 #[.agg cs, .slice Aw lw.length cw, .slice As ls.length cv] w fun e w' => e = .returned (.bool true) ∧ Below w.heap.size w w' := by
  obtain rfl := lim_cells_of hr
  exact spent_calls w x.1 x.2.1 x.2.2.1 x.2.2.2.1 x.2.2.2.2.1 x.2.2.2.2.2 Aw lw.length cw lw As ls.length cv ls h1 rfl (fun n hn => wf_bd (z1 n hn) (by decide) (by decide)) h2 rfl (fun n hn => wf_bd (z2 n hn) (by decide) (by decide))
end Go.Proofs.Yteajlffchdbkjaa.Re
