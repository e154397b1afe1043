/-
  RelayNone, plain. Conditions: as the theorems state them.
  RelayNone walked. Conditions: numbers are of their kinds.
  Rows of layer 25 and of top: limits that came in, read. No condition.
-/
import Derived.Test.YteajlffchdbkjaaMDb
import Derived.Test.YteajlffchdbkjaaOp
namespace Go.Proofs.Yteajlffchdbkjaa.Re
open Go.RowKit Go.Maps Go.Shelf Go.Proofs.Yteajlffchdbkjaa.Rv Go.Proofs.Yteajlffchdbkjaa.Ci Go.Proofs.Yteajlffchdbkjaa.Sp Go.Proofs.YteajlffchdbkjaaW.PrintWords Go.Proofs.YteajlffchdbkjaaW.PrintLast Go.Proofs.YteajlffchdbkjaaW.PrintMore
set_option linter.unusedVariables false
set_option linter.unusedSimpArgs false
theorem ResF_no {s : RelS} {t p host u code : Int} {R' : List HeldP} (h : resG s.l (overL s.R t) t p host = (u, code, R')) (hc : code ≠ 0) : ResF s t p host = (0, code, { s with now := t, R := R', tR := t }) := by
  unfold ResF
  rw [h, if_neg hc]
theorem ResF_yes {s : RelS} {t p host u : Int} {R' : List HeldP} (h : resG s.l (overL s.R t) t p host = (u, 0, R')) : ResF s t p host = (u, 0, { s with now := t, R := R', tR := t, N := (Nt.mintF s.N s.own (By.textL [s.own, p, u])).2.2 }) := by
  unfold ResF
  rw [h, if_pos rfl]
theorem none_first (l : LimV) : ConT (newS 900 l []) 0 1 2 = (0, 5, newS 900 l []) := by
  have hb : ¬ conBad (newS 900 l []) 0 1 2 := by unfold conBad isPeer newS; dsimp only; omega
  have hh : hasL (overL (newS 900 l []).R 0) 2 = false := rfl
  unfold ConT
  rw [if_neg hb]
  unfold ConF
  rw [if_neg (by rw [hh]; decide)]
  rfl
/-- A first reservation. -/
theorem first_res (l : LimV) (hl : 1 ≤ l.2.2.2.1 ∧ l.2.2.2.1 ≤ 1073741824) (t p host : Int) (ht : 0 ≤ t ∧ t ≤ 1000) :
    (l.2.1 ≤ 0 → resG l [] t p host = (0, 7, [])) ∧ (¬ l.2.1 ≤ 0 → l.1 ≤ 0 → resG l [] t p host = (0, 10, [])) ∧ (¬ l.2.1 ≤ 0 → ¬ l.1 ≤ 0 → resG l [] t p host = (t + l.2.2.2.1, 0, [(p, host, t + l.2.2.2.1)])) := by
  have hh : hasL [] p = false := rfl
  have hf : fromL [] host p = 0 := rfl
  have hc : capT (t + l.2.2.2.1) = t + l.2.2.2.1 := by unfold capT; split <;> omega
  refine ⟨fun h1 => ?_, fun h1 h2 => ?_, fun h1 h2 => ?_⟩
  · unfold resG; rw [if_pos ⟨.inl hh, by rw [hf]; exact h1⟩]
  · unfold resG; rw [if_neg (by rw [hf]; exact fun e => h1 e.2), if_pos ⟨hh, h2⟩]
  · unfold resG
    rw [if_neg (by rw [hf]; exact fun e => h1 e.2), if_neg (fun e => h2 e.2), hc]
    rfl
theorem none_res (l : LimV) (hl : 1 ≤ l.2.2.2.1 ∧ l.2.2.2.1 ≤ 1073741824) :
    ((ResT (newS 900 l []) 0 2 7).2.1 = 7 ∨ (ResT (newS 900 l []) 0 2 7).2.1 = 10) ∨
    (∃ N, ResT (newS 900 l []) 0 2 7 = (l.2.2.2.1, 0, ⟨900, l, [(2, 7, l.2.2.2.1)], 0, [], [], 0, 0, N, 0⟩)) := by
  have hb : ¬ resBad (newS 900 l []) 0 2 7 := by unfold resBad isPeer newS; dsimp only; omega
  obtain ⟨f1, f2, f3⟩ := first_res l hl 0 2 7 (by omega)
  unfold ResT
  rw [if_neg hb]
  by_cases h1 : l.2.1 ≤ 0
  · left; left
    rw [ResF_no (s := newS 900 l []) (f1 h1) (by decide)]
  · by_cases h2 : l.1 ≤ 0
    · left; right
      rw [ResF_no (s := newS 900 l []) (f2 h1 h2) (by decide)]
    · right
      refine ⟨(Nt.mintF [] 900 (By.textL [900, 2, l.2.2.2.1])).2.2, ?_⟩
      have f := f3 h1 h2
      rw [Int.zero_add] at f
      rw [ResF_yes (s := newS 900 l []) f]
      rfl
structure NoneInv (l : LimV) (i : Nat) (s : RelS) : Prop where
  own : s.own = 900
  lim : s.l = l
  R : s.R = [(2, 7, l.2.2.2.1)]
  now : s.now = 0
  len : (s.C.length : Int) = if (i : Int) ≤ l.2.2.1 then (i : Int) else l.2.2.1
  at' : ∀ c ∈ s.C, 10 ≤ c.2.1 ∧ c.2.1 < 10 + i ∧ c.2.2.1 = 2 ∧ 0 < c.2.2.2.1
theorem none_inv0 {l : LimV} (h : 0 ≤ l.2.2.1) (N : List Nt.Ent) : NoneInv l 0 ⟨900, l, [(2, 7, l.2.2.2.1)], 0, [], [], 0, 0, N, 0⟩ :=
  ⟨rfl, rfl, rfl, rfl, by simp [h], (fun c hc => by cases hc)⟩
theorem live_all {L : List CirP} {t : Int} (h : ∀ c ∈ L, t < c.2.2.2.1) : liveC L t = L ∧ goneC L t = [] := liveC_all (fun i hi => h _ (List.getElem_mem hi))
theorem over_one (p h u t : Int) : overL [(p, h, u)] t = if u ≤ t then [] else [(p, h, u)] := by
  unfold overL
  by_cases hu : u ≤ t
  · rw [if_pos hu]; simp [hu]
  · rw [if_neg hu]; simp [hu]
theorem none_step {l : LimV} {i : Nat} {s : RelS} (h : NoneInv l i s) (hi : i < 30) (hm : mayL l = true) :
    ((i : Int) < l.2.2.1 ∧ (ConT s 0 (10 + i) 2).2.1 = 0 ∨ ¬ (i : Int) < l.2.2.1 ∧ (ConT s 0 (10 + i) 2).2.1 = 10) ∧ NoneInv l (i + 1) (ConT s 0 (10 + i) 2).2.2 := by
  have hml := (mayL_iff l).1 hm
  have hb : ¬ conBad s 0 (10 + i) 2 := by unfold conBad isPeer; rw [h.own, h.now]; omega
  have ho : overL s.R 0 = [(2, 7, l.2.2.2.1)] := by rw [h.R, over_one, if_neg (by omega)]
  have hh : hasL (overL s.R 0) 2 = true := by rw [ho]; rfl
  have hg : (getL (overL s.R 0) 2).2.2 = l.2.2.2.1 := by rw [ho]; rfl
  obtain ⟨hlv, hgn⟩ := live_all (L := s.C) (t := 0) (fun c hc => (h.at' c hc).2.2.2)
  have hany : s.C.any (isBetween (10 + i) 2) = false := by
    rw [List.any_eq_false]
    intro c hc
    have := h.at' c hc
    unfold isBetween
    rw [show decide (c.2.1 = 10 + (i : Int)) = false from decide_eq_false (by omega), show decide (c.2.1 = 2) = false from decide_eq_false (by omega)]
    simp
  have hall := openG_all l.2.2.1 l.2.2.2.2.1 s.C s.last 0 (10 + i) 2 (l.2.2.2.1 + 30)
  unfold ConT
  rw [if_neg hb]
  unfold ConF
  rw [if_pos hh, hg, hlv, hgn, ho, h.lim]
  dsimp only
  have hlen := h.len
  by_cases hc : (i : Int) < l.2.2.1
  · rw [if_pos (by omega)] at hlen
    rw [hall.2.2 hany (by omega)]
    refine ⟨.inl ⟨hc, rfl⟩, h.own, rfl, rfl, rfl, ?_, fun c hc2 => ?_⟩
    · show ((s.C ++ [_]).length : Int) = _
      rw [List.length_append, List.length_singleton, if_pos (by omega)]; omega
    · rcases List.mem_append.1 hc2 with hc2 | hc2
      · have := h.at' c hc2; omega
      · rw [List.mem_singleton.1 hc2]
        dsimp only
        refine ⟨by omega, by omega, rfl, ?_⟩
        split <;> omega
  · rw [hall.2.1 hany (by split at hlen <;> omega)]
    refine ⟨.inr ⟨hc, rfl⟩, h.own, rfl, rfl, rfl, ?_, fun c hc2 => ?_⟩
    · show (s.C.length : Int) = _
      rw [if_neg (by omega)]
      split at hlen <;> omega
    · have := h.at' c hc2; omega
theorem none_last {l : LimV} {i : Nat} {s : RelS} (h : NoneInv l i s) (hm : mayL l = true) (hl : l.2.2.2.1 ≤ 1073741824) {t : Int} (h1 : l.2.2.2.1 ≤ t) (h2 : t ≤ 1099511627776) : (ConT s t 1 2).2.1 = 5 := by
  have hml := (mayL_iff l).1 hm
  have hb : ¬ conBad s t 1 2 := by unfold conBad isPeer; rw [h.own, h.now]; omega
  have ho : overL s.R t = [] := by rw [h.R, over_one, if_pos h1]
  unfold ConT
  rw [if_neg hb]
  unfold ConF
  rw [ho]
  rfl
end Go.Proofs.Yteajlffchdbkjaa.Re
namespace Go.Proofs.Yteajlffchdbkjaa.Re
open Go.RowKit Go.Maps Go.Shelf Go.Proofs.Yteajlffchdbkjaa.Rv Go.Proofs.Yteajlffchdbkjaa.Ci Go.Proofs.Yteajlffchdbkjaa.Sp Go.Proofs.YteajlffchdbkjaaW.PrintWords Go.Proofs.YteajlffchdbkjaaW.PrintLast Go.Proofs.YteajlffchdbkjaaW.PrintMore
set_option linter.unusedVariables false
set_option linter.unusedSimpArgs false
attribute [local go_sem] Oper.semAt_some
theorem limC_cells {V : World} {g : Nat} {a b c d e f : Int} (h : V.heap[g]? = some (.cells #[.int .i64 a, .int .i64 b, .int .i64 c, .int .i64 d, .int .i64 e, .int .i64 f] 23 (0, 0))) : V.cell? ⟨g, 0, none⟩ = some (.int .i64 a) ∧ V.cell? ⟨g, 1, none⟩ = some (.int .i64 b) ∧ V.cell? ⟨g, 2, none⟩ = some (.int .i64 c) ∧ V.cell? ⟨g, 3, none⟩ = some (.int .i64 d) ∧ V.cell? ⟨g, 4, none⟩ = some (.int .i64 e) ∧ V.cell? ⟨g, 5, none⟩ = some (.int .i64 f) :=
  ⟨cell_cellsN h 0 (by simp), cell_cellsN h 1 (by simp), cell_cellsN h 2 (by simp), cell_cellsN h 3 (by simp), cell_cellsN h 4 (by simp), cell_cellsN h 5 (by simp)⟩
theorem ptr_nil (w : World) (a : Addr) : (binOp .eql 32 (.pointer (some a)) (.pointer none)).run Try.prog w = .ok (.bool false) w := by kernel_rfl
set_option maxRecDepth 100000 in
set_option maxHeartbeats 8000000 in
theorem rnone_calls (w : World) (a b c d e f nn late : Int) (hn : 0 ≤ nn ∧ nn ≤ 255) (hlate : 0 ≤ late ∧ late ≤ 255) :
    Calls Try.prog 6 #[.agg #[.int .i64 a, .int .i64 b, .int .i64 c, .int .i64 d, .int .i64 e, .int .i64 f], .int .u8 nn, .int .u8 late] w fun en w' => en = .returned (.bool true) ∧ Below w.heap.size w w' := by
  obtain ⟨W, hW⟩ : ∃ W, w.alloc (.cells #[.int .i64 a, .int .i64 b, .int .i64 c, .int .i64 d, .int .i64 e, .int .i64 f] 23) = W := ⟨_, rfl⟩
  have hbW : Below w.heap.size w W := by rw [← hW]; exact (Below.refl _ w).alloc (Nat.le_refl _) _
  have hbl : W.heap[w.heap.size]? = some (.cells #[.int .i64 a, .int .i64 b, .int .i64 c, .int .i64 d, .int .i64 e, .int .i64 f] 23 (0, 0)) := by rw [← hW]; exact new_cellsN w _ _
  have hlt : w.heap.size < W.heap.size := (Array.getElem?_eq_some_iff.1 hbl).1
  have LC := Lib.hid (fun (V : World) (hV : Below W.heap.size W V) => limC_cells ((hV.block _ hlt).trans hbl))
  have HBW := Lib.hid hbW
  have HLT := Lib.hid hlt
  have q25 := ptr_nil
  obtain ⟨kk, hkk⟩ : ∃ kk : Nat, Int.tmod (wrap64 nn) 30 = (kk : Int) ∧ kk < 30 := by
    refine ⟨(nn % 30).toNat, ?_, ?_⟩
    · rw [show wrap64 nn = nn by unfold wrap64; omega, Int.tmod_eq_emod_of_nonneg hn.1]; omega
    · omega
  have HKK := Lib.hid hkk
  have HL := Lib.hid hlate
  have KM := Lib.hid (fun V => rvmay_calls V a b c d e f)
  clear hkk hn hlate hbl hbW hlt
  go_enter Try.func6, Try.ntmps6
  go_upto_region 3 with (go_at_call 17; refine (awake_calls _).mono ?_; rintro en w1 ⟨rfl, hb1⟩; have HB1 := Lib.hid hb1; clear hb1)
  clear hW
  obtain ⟨c0, c1, c2, c3, c4, c5⟩ := LC.out w1 HB1.out
  cases hm : mayL (a, b, c, d, e, f) with
  | false =>
    have KM1 := KM.out w1
    rw [hm] at KM1
    have KM1 := Lib.hid KM1
    go_wp2_with (go_at_call 21; with_reducible refine KM1.out.mono ?_; rintro en w2 ⟨rfl, hg2⟩; have HG2 := Lib.hid hg2; clear hg2)
    go_ret
    exact ⟨rfl, HBW.out.trans ((HB1.out.trans ((grown_below HG2.out).mono HB1.out.size)).mono (Nat.le_of_lt HLT.out))⟩
  | true =>
    have KM1 := KM.out w1
    rw [hm] at KM1
    have KM1 := Lib.hid KM1
    have HM := Lib.hid hm
    have hml := (mayL_iff (a, b, c, d, e, f)).1 hm
    have HML := Lib.hid hml
    clear hm hml
    have HC2 := Lib.hid (fun V (hV : w1.grownBy V none) => LC.out V (HB1.out.trans ((grown_below hV).mono HB1.out.size)))
    by_cases hlife : d > 1073741824
    · have b1 : decide (d > 1073741824) = true := decide_eq_true hlife
      go_wp2_with (go_at_call 21; with_reducible refine KM1.out.mono ?_; rintro en w2 ⟨rfl, hg2⟩; have HG2 := Lib.hid hg2; obtain ⟨d0, d1, d2, d3, d4, d5⟩ := HC2.out w2 hg2; clear hg2)
      go_ret
      exact ⟨rfl, HBW.out.trans ((HB1.out.trans ((grown_below HG2.out).mono HB1.out.size)).mono (Nat.le_of_lt HLT.out))⟩
    · have b1 : decide (d > 1073741824) = false := decide_eq_false hlife
      have HD := Lib.hid (show 1 ≤ d ∧ d ≤ 1073741824 from ⟨by have := HML.out.2.2.2.1.1; exact this, by omega⟩)
      go_upto_region 5 with (go_at_call 21; with_reducible refine KM1.out.mono ?_; rintro en w2 ⟨rfl, hg2⟩; have HG2 := Lib.hid hg2; obtain ⟨d0, d1, d2, d3, d4, d5⟩ := HC2.out w2 hg2; clear hg2)
      have HB2 := Lib.hid (show Below W.heap.size W w2 from HB1.out.trans ((grown_below HG2.out).mono HB1.out.size))
      clear c0 c1 c2 c3 c4 c5 hlife b1
      refine wp_region_held_drew (S := fun w' => w'.cell? ⟨w.heap.size, 0, none⟩ = some (.int .i64 a) ∧ w'.cell? ⟨w.heap.size, 1, none⟩ = some (.int .i64 b) ∧ w'.cell? ⟨w.heap.size, 2, none⟩ = some (.int .i64 c) ∧ w'.cell? ⟨w.heap.size, 3, none⟩ = some (.int .i64 d) ∧ w'.cell? ⟨w.heap.size, 4, none⟩ = some (.int .i64 e) ∧ w'.cell? ⟨w.heap.size, 5, none⟩ = some (.int .i64 f)) (by kernel_rfl) ?_ (fun hHeld => ?_)
      · exact ⟨d0, d1, d2, d3, d4, d5⟩
      refine wpAnyH_take (i := 0) (v := ?_) rfl (by kernel_rfl) (by kernel_rfl) (by kernel_rfl) (fun _ _ _ h => h) (Or.inl ⟨by rfl, ?_⟩) (by assumption) ?_
      rotate_left
      · (intro w hSw; (try dsimp only at hSw); go_simp; try with_reducible rfl)
      try simp only [Act.put, List.setIfInBounds_toArray, List.set_cons_zero, List.set_cons_succ, List.getElem_toArray, List.getElem_cons_succ, List.getElem_cons_zero]
      refine wpAnyH_ready (rs := [1]) (by kernel_rfl) (by simp) ?_
      refine AllReadyH.cons rfl (fun K hK => ?_) AllReadyH.nil
      go_simp
      go_at_call 10; refine (Nt.one_new _).mono ?_; rintro en w3 ⟨gN, rfl, hN, hb⟩; have HN := Lib.hid hN; have HB3 := Lib.hid (show Below W.heap.size W w3 from (HB2.out.trans (drew_below w2 |>.mono HB2.out.size)).trans (hb.mono HB2.out.size)); have hl3 := LC.out w3 HB3.out; clear hN hb
      refine hK.out _ _ ?_ (fun hHeld => ?_)
      · exact hl3
      clear hK K
      try simp only [Act.put, List.setIfInBounds_toArray, List.set_cons_zero, List.set_cons_succ, List.getElem_toArray, List.getElem_cons_succ, List.getElem_cons_zero]
      refine wpAnyH_ready (rs := [2]) (by kernel_rfl) (by simp) ?_
      refine AllReadyH.cons rfl (fun K hK => ?_) AllReadyH.nil
      go_simp
      go_at_call 11; refine (new_k 900 a b c d e f gN HN.out HM.out (by decide)).mono ?_; rintro en w4 ⟨r, rfl, hr, hb⟩; have HK4 := Lib.hid (hr.sub (fun k hk => Nat.lt_of_lt_of_le hk HB2.out.size)); have HB4 := Lib.hid (show Below W.heap.size W w4 from HB3.out.trans (hb.mono HB3.out.size)); have hl4 := LC.out w4 HB4.out; clear hr hb
      refine hK.out _ _ ?_ (fun hHeld => ?_)
      · exact hl4
      clear hK K
      try simp only [Act.put, List.setIfInBounds_toArray, List.set_cons_zero, List.set_cons_succ, List.getElem_toArray, List.getElem_cons_succ, List.getElem_cons_zero]
      refine wpAnyH_take (i := 3) (v := ?_) rfl (by kernel_rfl) (by kernel_rfl) (by kernel_rfl) (fun _ _ _ h => h) (Or.inl ⟨by rfl, ?_⟩) (by assumption) ?_
      rotate_left
      · (intro w hSw; (try dsimp only at hSw); go_simp; try with_reducible rfl)
      try simp only [Act.put, List.setIfInBounds_toArray, List.set_cons_zero, List.set_cons_succ, List.getElem_toArray, List.getElem_cons_succ, List.getElem_cons_zero]
      refine wpAnyH_take (i := 4) (v := ?_) rfl (by kernel_rfl) (by kernel_rfl) (by kernel_rfl) (fun _ _ _ h => h) (Or.inl ⟨by rfl, ?_⟩) (by assumption) ?_
      rotate_left
      · (intro w hSw; (try dsimp only at hSw); go_simp; try with_reducible rfl)
      try simp only [Act.put, List.setIfInBounds_toArray, List.set_cons_zero, List.set_cons_succ, List.getElem_toArray, List.getElem_cons_succ, List.getElem_cons_zero]
      refine wpAnyH_take (i := 5) (v := ?_) rfl (by kernel_rfl) (by kernel_rfl) (by kernel_rfl) (fun _ _ _ h => h) (Or.inl ⟨by rfl, ?_⟩) (by assumption) ?_
      rotate_left
      · (intro w hSw; (try dsimp only at hSw); go_simp; try with_reducible rfl)
      try simp only [Act.put, List.setIfInBounds_toArray, List.set_cons_zero, List.set_cons_succ, List.getElem_toArray, List.getElem_cons_succ, List.getElem_cons_zero]
      refine wpAnyH_take (i := 6) (v := ?_) rfl (by kernel_rfl) (by kernel_rfl) (by kernel_rfl) (fun _ _ _ h => h) (Or.inl ⟨by rfl, ?_⟩) (by assumption) ?_
      rotate_left
      · (intro w hSw; (try dsimp only at hSw); go_simp; try with_reducible rfl)
      try simp only [Act.put, List.setIfInBounds_toArray, List.set_cons_zero, List.set_cons_succ, List.getElem_toArray, List.getElem_cons_succ, List.getElem_cons_zero]
      refine wpAnyH_take (i := 7) (v := ?_) rfl (by kernel_rfl) (by kernel_rfl) (by kernel_rfl) (fun _ _ _ h => h) (Or.inl ⟨by rfl, ?_⟩) (by assumption) ?_
      rotate_left
      · (intro w hSw; (try dsimp only at hSw); go_simp; try with_reducible rfl)
      try simp only [Act.put, List.setIfInBounds_toArray, List.set_cons_zero, List.set_cons_succ, List.getElem_toArray, List.getElem_cons_succ, List.getElem_cons_zero]
      refine wpAnyH_done (by kernel_rfl) ?_ _
      clear d0 d1 d2 d3 d4 d5
      go_upto_region 8 with fail
      have k5 := con_k HK4.out (by omega) 0 1 2
      unfold ConK at k5
      rw [none_first] at k5
      have K5 := Lib.hid k5
      clear k5
      go_upto_region 9 with (go_at_call 14; refine K5.out.mono ?_; rintro en w5 ⟨rfl, hk, hkp⟩; have HK5 := Lib.hid hk; have HB5 := Lib.hid (show Below W.heap.size W w5 from HB4.out.trans (hkp.toBelow (fun i hi => hi) HB4.out.size)); clear hk hkp)
      have k6 := res_k HK5.out (by omega) 0 2 7
      unfold ResK at k6
      rcases none_res (a, b, c, d, e, f) HD.out with hg | ⟨N, hg⟩
      · obtain ⟨u, hu⟩ : ∃ u, (ResT (newS 900 (a, b, c, d, e, f) []) 0 2 7).1 = u := ⟨_, rfl⟩
        obtain ⟨g, hgc⟩ : ∃ g, (ResT (newS 900 (a, b, c, d, e, f) []) 0 2 7).2.1 = g := ⟨_, rfl⟩
        rw [hu, hgc] at k6
        rw [hgc] at hg
        have K6 := Lib.hid k6
        clear k6 hu hgc
        rcases hg with hg | hg
        · subst hg
          go_wp2_with (go_at_call 12; refine K6.out.mono ?_; rintro en w6 ⟨v, sz, rfl, _, hsz, hk, hkp⟩; have HB6 := Lib.hid (show Below W.heap.size W w6 from HB5.out.trans (hkp.toBelow (fun i hi => hi) HB5.out.size)); clear hsz hk hkp)
          go_ret
          exact ⟨rfl, HBW.out.trans (HB6.out.mono (Nat.le_of_lt HLT.out))⟩
        · subst hg
          go_wp2_with (go_at_call 12; refine K6.out.mono ?_; rintro en w6 ⟨v, sz, rfl, _, hsz, hk, hkp⟩; have HB6 := Lib.hid (show Below W.heap.size W w6 from HB5.out.trans (hkp.toBelow (fun i hi => hi) HB5.out.size)); clear hsz hk hkp)
          go_ret
          exact ⟨rfl, HBW.out.trans (HB6.out.mono (Nat.le_of_lt HLT.out))⟩
      · rw [hg] at k6
        have K6 := Lib.hid k6
        clear k6 hg
        go_upto_region 12 with (go_at_call 12; refine K6.out.mono ?_; rintro en w6 ⟨v, sz, rfl, hR, hsz, hk, hkp⟩; have HR6 := Lib.hid (hR rfl); have HK6 := Lib.hid (hk.sub (fun k (e : k < W.heap.size) => .inl e)); have HB6 := Lib.hid (show Below W.heap.size W w6 from HB5.out.trans (hkp.toBelow (fun i hi => hi) HB5.out.size)); clear hR hsz hk hkp)
        obtain ⟨A3, c3, hv3, _⟩ := Kd.R_reads HR6.out
        obtain ⟨m3, hm3⟩ : ∃ m, (By.vouchI (newS 900 (a, b, c, d, e, f) []).own 2 d (resTag (newS 900 (a, b, c, d, e, f) []) 0 2 7)).length = m := ⟨_, rfl⟩
        have hv3' : v = .slice A3 m3 c3 := by rw [← hm3]; exact hv3
        subst hv3'
        clear hm3 hv3 K5 K6
        have hkk := HKK.out.1
        go_upto_region 14 with fail
        clear hkk
        have hk30 := HKK.out.2
        go_loopw [15] (fun x wr => ∃ (i : Nat) (s : RelS), x = .int .i64 i ∧ i ≤ kk ∧ Hid (NoneInv (a, b, c, d, e, f) i s) ∧ Hid (RelK (i + 2) wr r gN s (fun k => k < W.heap.size)) ∧ Hid (Below W.heap.size W wr)) (fun x _ => kk - (intOf x).toNat)
        case atStart => exact ⟨0, _, rfl, Nat.zero_le _, Lib.hid (none_inv0 (l := (a, b, c, d, e, f)) HML.out.2.2.1.1 N), Lib.hid HK6.out, HB6⟩
        case round =>
          obtain ⟨i, s, rfl, hik, HI, HKr, HBr⟩ := hrel
          obtain ⟨c0, c1, c2, c3', c4, c5⟩ := LC.out wr HBr.out
          by_cases hlt : i < kk
          · have b1 : decide ((i : Int) < (kk : Int)) = true := decide_eq_true (by omega)
            have hst := none_step HI.out (by omega) HM.out
            have k7 := con_k HKr.out (by omega) 0 (10 + i) 2
            unfold ConK at k7
            obtain ⟨⟨x1, h, s'⟩, hq⟩ : ∃ q, ConT s 0 (10 + i) 2 = q := ⟨_, rfl⟩
            rw [hq] at hst k7
            dsimp only at hst
            have HI2 := Lib.hid hst.2
            have K7 := Lib.hid k7
            have hcc := hst.1
            clear hst k7 hq
            rcases hcc with ⟨h1, h2⟩ | ⟨h1, h2⟩
            · have b2 : decide ((i : Int) < c) = true := decide_eq_true h1
              subst h2
              go_wp2_with (go_at_call 14; refine K7.out.mono ?_; rintro en w7 ⟨rfl, hk, hkp⟩; have HK7 := Lib.hid hk; have HB7 := Lib.hid (show Below W.heap.size W w7 from HBr.out.trans (hkp.toBelow (fun i hi => hi) HBr.out.size)); obtain ⟨e0, e1, e2, e3, e4, e5⟩ := LC.out w7 HB7.out; clear hk hkp)
              go_roundw
              case rel => exact ⟨i + 1, s', by go_num, by omega, HI2, Lib.hid (HK7.out.mono (by omega)), HB7⟩
              case measure => simp [intOf]; omega
            · have b2 : decide ((i : Int) < c) = false := decide_eq_false h1
              subst h2
              go_wp2_with (go_at_call 14; refine K7.out.mono ?_; rintro en w7 ⟨rfl, hk, hkp⟩; have HK7 := Lib.hid hk; have HB7 := Lib.hid (show Below W.heap.size W w7 from HBr.out.trans (hkp.toBelow (fun i hi => hi) HBr.out.size)); obtain ⟨e0, e1, e2, e3, e4, e5⟩ := LC.out w7 HB7.out; clear hk hkp)
              go_roundw
              case rel => exact ⟨i + 1, s', by go_num, by omega, HI2, Lib.hid (HK7.out.mono (by omega)), HB7⟩
              case measure => simp [intOf]; omega
          · have b1 : decide ((i : Int) < (kk : Int)) = false := decide_eq_false (by omega)
            obtain ⟨t, ht⟩ : ∃ t, d + late = t := ⟨_, rfl⟩
            have hw1 : wrap64 late = late := by have := HL.out; unfold wrap64; omega
            have hw2 : wrap64 t = t := by have := HL.out; have := HD.out; unfold wrap64; omega
            have hla := none_last HI.out HM.out HD.out.2 (t := t) (by have := HL.out; show d ≤ t; omega) (by have := HL.out; have := HD.out; omega)
            have k7 := con_k HKr.out (by omega) t 1 2
            unfold ConK at k7
            obtain ⟨⟨x1, h, s'⟩, hq⟩ : ∃ q, ConT s t 1 2 = q := ⟨_, rfl⟩
            rw [hq] at hla k7
            have hla : h = 5 := hla
            subst hla
            have K7 := Lib.hid k7
            have HLL := HL.out
            have HDD := HD.out
            clear k7 hq
            go_wp2_with (go_at_call 14; refine K7.out.mono ?_; rintro en w7 ⟨rfl, hk, hkp⟩; have HB7 := Lib.hid (show Below W.heap.size W w7 from HBr.out.trans (hkp.toBelow (fun i hi => hi) HBr.out.size)); clear hk hkp)
            go_ret
            exact ⟨rfl, HBW.out.trans (HB7.out.mono (Nat.le_of_lt HLT.out))⟩
end Go.Proofs.Yteajlffchdbkjaa.Re
namespace Go.Proofs.Yteajlffchdbkjaa.Re
open Go.RowKit Go.Maps Go.Proofs.Yteajlffchdbkjaa.Rv
set_option linter.unusedVariables false
theorem wf_bd {k : IntKind} {x lo hi : Int} (h : (Lit.int k x).wf = true) (h1 : lo ≤ k.min) (h2 : k.max ≤ hi) : lo ≤ x ∧ x ≤ hi := by
  simp [Lit.wf] at h
  omega
open Go.Proofs.YteajlffchdbkjaaW.PrintWords in
def dLim : Kd LimV := Kd.pair (Kd.int .i64) (Kd.pair (Kd.int .i64) (Kd.pair (Kd.int .i64) (Kd.pair (Kd.int .i64) (Kd.pair (Kd.int .i64) (Kd.int .i64)))))
theorem opens_Lim : Op.Opens Try.prog 23 dLim (fun _ => True) :=
  Op.opens_mono (Op.opens_struct Try.underlying23 (by kernel_rfl)
    (Op.opensF_cons rfl (by kernel_rfl) (Op.opens_int Try.underlying3)
      (Op.opensF_cons rfl (by kernel_rfl) (Op.opens_int Try.underlying3)
        (Op.opensF_cons rfl (by kernel_rfl) (Op.opens_int Try.underlying3)
          (Op.opensF_cons rfl (by kernel_rfl) (Op.opens_int Try.underlying3)
            (Op.opensF_cons rfl (by kernel_rfl) (Op.opens_int Try.underlying3)
              (Op.opensF_one rfl (by kernel_rfl) (Op.opens_int Try.underlying3))))))))
    (fun y h => trivial)
theorem lim_cells_of {w : World} {cs : Array Value} {x : LimV} (h : dLim.K w x (Value.agg cs).cells.toList) : cs = #[.int .i64 x.1, .int .i64 x.2.1, .int .i64 x.2.2.1, .int .i64 x.2.2.2.1, .int .i64 x.2.2.2.2.1, .int .i64 x.2.2.2.2.2] := by
  obtain ⟨_, _, h, rfl, _, _, rfl, rfl, _, _, rfl, rfl, _, _, rfl, rfl, _, _, rfl, rfl, rfl⟩ := h
  exact Array.toList_inj.1 h
theorem none_row (cs : Array Value) (x : LimV) (n : Int) (late : Int) (w : World) (hr : dLim.K w x (Value.agg cs).cells.toList) (hw : True) (hn : (Lit.int .u8 n).wf = true) (hl : (Lit.int .u8 late).wf = true) :
    Calls Try.prog 6 #[.agg cs, .int .u8 n, .int .u8 late] w fun e w' => e = .returned (.bool true) ∧ Below w.heap.size w w' := by
  obtain rfl := lim_cells_of hr
  exact rnone_calls w x.1 x.2.1 x.2.2.1 x.2.2.2.1 x.2.2.2.2.1 x.2.2.2.2.2 n late (wf_bd hn (by decide) (by decide)) (wf_bd hl (by decide) (by decide))
end Go.Proofs.Yteajlffchdbkjaa.Re
