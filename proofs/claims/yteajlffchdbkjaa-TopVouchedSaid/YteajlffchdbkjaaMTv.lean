/-
  TopVouched walked. Conditions: numbers are of their kinds.
  TopVouched, as its row wants it. No condition.
-/
import Derived.Test.YteajlffchdbkjaaMTp
import Derived.Laws.BitsAllLaws
import Derived.IntWalk
namespace Go.Proofs.Yteajlffchdbkjaa.Re
open Go.RowKit Go.Maps Go.Shelf Go.Proofs.Yteajlffchdbkjaa.Rv Go.Proofs.Yteajlffchdbkjaa.Ci Go.Proofs.Yteajlffchdbkjaa.Sp Go.Proofs.YteajlffchdbkjaaW.PrintWords Go.Proofs.YteajlffchdbkjaaW.PrintLast Go.Proofs.YteajlffchdbkjaaW.PrintMore
set_option linter.unusedVariables false
set_option linter.unusedSimpArgs false
attribute [local go_sem] Oper.semAt_some
theorem xor_facts {a b : Int} (h0 : 0 ≤ a) (h1 : a ≤ 255) (h2 : 0 ≤ b) (h3 : b ≤ 255) : (0 ≤ Go.bits .xor .u8 a b ∧ Go.bits .xor .u8 a b ≤ 255) ∧ (Go.bits .xor .u8 a b = a ↔ b = 0) := by
  rw [u8_xor a b h0 (by omega) h2 (by omega)]
  obtain ⟨m, rfl⟩ := Int.eq_ofNat_of_zero_le h0
  obtain ⟨n, rfl⟩ := Int.eq_ofNat_of_zero_le h2
  have hlt := Nat.xor_lt_two_pow (x := m) (y := n) (n := 8) (by omega) (by omega)
  simp only [Int.toNat_natCast]
  refine ⟨by omega, fun h => ?_, fun h => ?_⟩
  · have h : m ^^^ n = m := by omega
    have h' : m ^^^ (m ^^^ n) = m ^^^ m := by rw [h]
    rw [← Nat.xor_assoc, Nat.xor_self, Nat.zero_xor] at h'
    omega
  · have h : n = 0 := by omega
    rw [h, Nat.xor_zero]
theorem bytes_set {xs : List Int} (h : Fr.Bytes xs) (i : Nat) {y : Int} (hy : 0 ≤ y ∧ y ≤ 255) : Fr.Bytes (xs.set i y) := fun x hx => by
  rcases List.mem_or_eq_of_mem_set hx with h1 | rfl
  · exact h x h1
  · exact hy
theorem bytes_take {xs : List Int} (h : Fr.Bytes xs) (i : Nat) : Fr.Bytes (xs.take i) := fun x hx => h x (List.mem_of_mem_take hx)
theorem bytes_pre {w w' : World} {A : Option Addr} {n i : Nat} {xs : List Int} (h : (Kd.int .u8).C w A n xs) (hb : Below w.heap.size w w') (hn : xs.length = n) (hi : i < n) : (Kd.int .u8).C w' A i (xs.take i) := by
  have h2 := Kd.C_below h hb
  refine Kd.C_of_reads (d := (0 : Int)) (h1 := fun _ => rfl) ⟨by rw [List.length_take]; omega, Nat.le_trans (Nat.le_of_lt hi) h2.2.1, fun hp => ?_⟩
  obtain ⟨ad, e, _⟩ := By.cell_of_C h2 0 (by omega) hn.symm
  refine ⟨ad, e, fun j hj => ?_⟩
  obtain ⟨ad2, e2, hx⟩ := By.cell_of_C h2 j (by omega) hn.symm
  rw [e] at e2
  injection e2 with e2
  subst e2
  rw [hx, List.getD_eq_getElem?_getD, List.getElem?_take_of_lt hj, List.getElem?_eq_getElem (by omega)]
  rfl
theorem bytes_stay {w w' : World} {base n c : Nat} {ok : Nat → Prop} {A : Option Addr} {xs : List Int} (h : (Kd.int .u8).R 5 w base ok (.slice A n c) xs) (hs : ∀ k, ok k → w'.heap[k]? = w.heap[k]?) : (Kd.int .u8).C w' A n xs := by
  obtain ⟨hC, hn, hc⟩ := By.R_C h
  refine Kd.C_of_reads (d := (0 : Int)) (h1 := fun _ => rfl) ⟨hn.symm, hC.2.1, fun hp => ?_⟩
  obtain ⟨inner, ho⟩ := Kd.R_own h
  rcases ho.2 with ⟨e, _⟩ | ⟨g', cap, cur, e, _⟩
  · injection e with e1 e2 e3
    omega
  · injection e with e1 e2 e3
    subst e1
    refine ⟨_, rfl, fun j hj => ?_⟩
    obtain ⟨ad2, e2, hx⟩ := By.cell_of_C hC j (by omega) hn
    injection e2 with e2
    subst e2
    rw [Addr.add_lit] at hx ⊢
    have hk := h.1 g' rfl
    have hh : w'.cell? ⟨g', 0 + j, none⟩ = w.cell? ⟨g', 0 + j, none⟩ := by
      unfold World.cell?
      rw [show w'.heap[(⟨g', 0 + j, none⟩ : Addr).block]? = w.heap[(⟨g', 0 + j, none⟩ : Addr).block]? from hs _ hk]
    rw [hh, hx, List.getD_eq_getElem?_getD, List.getElem?_eq_getElem (by omega)]
    rfl
theorem some_mod (x : Int) (n : Nat) (h : 0 ≤ x) (hn : 0 < n) : ∃ j : Nat, Int.tmod x n = (j : Int) ∧ j < n := by
  refine ⟨(x % n).toNat, ?_, ?_⟩
  · rw [Int.tmod_eq_emod_of_nonneg h]
    have := Int.emod_nonneg x (show (n : Int) ≠ 0 by omega)
    omega
  · have h1 := Int.emod_lt_of_pos x (show (0 : Int) < n by omega)
    have h2 := Int.emod_nonneg x (show (n : Int) ≠ 0 by omega)
    omega
theorem may_u {u : Int} (h : 5 < u) (h2 : u ≤ 1073741829) : By.mayF 9 2 u = true := by
  rw [By.mayF_iff]; omega
theorem con_own {s s' : RelS} {x h t a b : Int} (hq : ConT s t a b = (x, h, s')) : s'.N = s.N := by
  have h2 : (ConT s t a b).2.2 = s' := by rw [hq]
  rw [← h2]
  unfold ConT
  split
  · rfl
  · unfold ConF
    split <;> rfl
/-- What the turned voucher comes to. -/
theorem turned_post {u : Int} (hm : By.mayF 9 2 u = true) (hu : 5 < u) {B : List Int} (hB : B = By.vouchI 9 2 u 1) (i : Nat) (hi : i < B.length) (y t : Int) (hy : y = B[i] ↔ t = 0) :
    (t = 0 ∧ By.checkV [(9, By.textL [9, 2, u])] (B.set i y) 9 2 5 = (u, 0)) ∨ (t ≠ 0 ∧ (By.checkV [(9, By.textL [9, 2, u])] (B.set i y) 9 2 5).2 ≠ 0) := by
  by_cases ht : t = 0
  · left
    refine ⟨ht, ?_⟩
    rw [hy.2 ht, List.set_getElem_self, hB, check_own hm, if_neg (by omega)]
  · right
    refine ⟨ht, check_turned hm (fun e => ht (hy.1 ?_))⟩
    rw [← hB] at e
    have h := congrArg (fun l => l[i]?) e
    simp only [List.getElem?_set_self hi, List.getElem?_eq_getElem hi, Option.some.injEq] at h
    exact h
theorem byte_facts {w9 : World} {base g9 c9 m3 i : Nat} {u t1 : Int} (ho : (Kd.int .u8).R 5 w9 base (fun _ => True) (.slice (some ⟨g9, 0, none⟩) m3 c9) (By.vouchI 9 2 u 1)) (hm : (By.vouchI 9 2 u 1).length = m3) (hi : i < m3) (hv : By.mayF 9 2 u = true) (hu : 5 < u) (ht : 0 ≤ t1 ∧ t1 ≤ 255) :
    ∃ x y B', Go.bits .xor .u8 x t1 = y ∧ w9.cell? ⟨g9, i, none⟩ = some (.int .u8 x) ∧ w9.frozen? ⟨g9, i, none⟩ = false ∧ base ≤ g9 ∧ (Kd.int .u8).C (w9.setCell ⟨g9, i, none⟩ (.int .u8 y)) (some ⟨g9, 0, none⟩) m3 B' ∧ B'.length = m3 ∧ Fr.Bytes B' ∧
      ((t1 = 0 ∧ By.checkV [(9, By.textL [9, 2, u])] B' 9 2 5 = (u, 0)) ∨ (t1 ≠ 0 ∧ (By.checkV [(9, By.textL [9, 2, u])] B' 9 2 5).2 ≠ 0)) := by
  obtain ⟨B, hB⟩ : ∃ B, B = By.vouchI 9 2 u 1 := ⟨_, rfl⟩
  have hb : Fr.Bytes B := by rw [hB]; exact vbytes hv (by decide)
  rw [← hB] at ho hm
  have hiB : i < B.length := by omega
  obtain ⟨x, hx⟩ : ∃ x, B[i] = x := ⟨_, rfl⟩
  have hxb := hb x (by rw [← hx]; exact List.getElem_mem _)
  obtain ⟨y, hy⟩ : ∃ y, Go.bits .xor .u8 x t1 = y := ⟨_, rfl⟩
  have hxf := xor_facts hxb.1 hxb.2 ht.1 ht.2
  rw [hy] at hxf
  obtain ⟨h1, h2, h3, h4, _, _⟩ := byte_set ho i hiB (y := y)
  rw [hx] at h2
  exact ⟨x, y, B.set i y, hy, h2, h3, h4, h1, by rw [List.length_set]; exact hm, bytes_set hb i hxf.1, turned_post hv hu hB i hiB y t1 (by rw [hx]; exact hxf.2)⟩
set_option maxRecDepth 100000 in
set_option maxHeartbeats 16000000 in
theorem vouched_calls (w : World) (a b c d e f h0 late t0 t1 : Int) (hh0 : 0 ≤ h0 ∧ h0 ≤ 65535) (hla : 0 ≤ late ∧ late ≤ 65535) (ht0 : 0 ≤ t0 ∧ t0 ≤ 255) (ht1 : 0 ≤ t1 ∧ t1 ≤ 255) :
    Calls Try.prog 3 #[.agg #[.int .i64 a, .int .i64 b, .int .i64 c, .int .i64 d, .int .i64 e, .int .i64 f], .agg #[.int .u16 h0, .int .u16 late], .agg #[.int .u8 t0, .int .u8 t1]] w fun en w' => en = .returned (.bool true) ∧ Below w.heap.size w w' := by
  obtain ⟨W1, hW1⟩ : ∃ W, w.alloc (.cells #[.int .i64 a, .int .i64 b, .int .i64 c, .int .i64 d, .int .i64 e, .int .i64 f] 23) = W := ⟨_, rfl⟩
  obtain ⟨W2, hW2⟩ : ∃ W, W1.alloc (.cells #[.int .u16 h0, .int .u16 late] 25) = W := ⟨_, rfl⟩
  obtain ⟨W, hW⟩ : ∃ W, W2.alloc (.cells #[.int .u8 t0, .int .u8 t1] 26) = W := ⟨_, rfl⟩
  have hs1 : W1.heap.size = w.heap.size + 1 := by rw [← hW1]; simp
  have hs2 : W2.heap.size = w.heap.size + 1 + 1 := by rw [← hW2]; simp [hs1]
  have hb1 : Below w.heap.size w W1 := by rw [← hW1]; exact (Below.refl _ _).alloc (Nat.le_refl _) _
  have hb2 : Below W1.heap.size W1 W2 := by rw [← hW2]; exact (Below.refl _ _).alloc (Nat.le_refl _) _
  have hb3 : Below W2.heap.size W2 W := by rw [← hW]; exact (Below.refl _ _).alloc (Nat.le_refl _) _
  have hbW : Below w.heap.size w W := hb1.trans ((hb2.trans (hb3.mono hb2.size)).mono hb1.size)
  have hl : W.heap[w.heap.size]? = some (.cells #[.int .i64 a, .int .i64 b, .int .i64 c, .int .i64 d, .int .i64 e, .int .i64 f] 23 (0, 0)) := (hb3.block _ (by omega)).trans ((hb2.block _ (by omega)).trans (by rw [← hW1]; exact new_cellsN w _ _))
  have hhw : W.heap[W1.heap.size]? = some (.cells #[.int .u16 h0, .int .u16 late] 25 (0, 0)) := (hb3.block _ (by omega)).trans (by rw [← hW2]; exact new_cellsN W1 _ _)
  have htn : W.heap[W2.heap.size]? = some (.cells #[.int .u8 t0, .int .u8 t1] 26 (0, 0)) := by rw [← hW]; exact new_cellsN W2 _ _
  have hlt : W2.heap.size < W.heap.size := (Array.getElem?_eq_some_iff.1 htn).1
  have LC := Lib.hid (fun (V : World) (hV : Below W.heap.size W V) => limC_cells ((hV.block _ (by omega)).trans hl))
  have BC := Lib.hid (fun (V : World) (hV : Below W.heap.size W V) => (show V.cell? ⟨W1.heap.size, 0, none⟩ = some (.int .u16 h0) ∧ V.cell? ⟨W1.heap.size, 1, none⟩ = some (.int .u16 late) ∧ V.cell? ⟨W2.heap.size, 0, none⟩ = some (.int .u8 t0) ∧ V.cell? ⟨W2.heap.size, 1, none⟩ = some (.int .u8 t1) from
    ⟨cell_cellsN ((hV.block _ (by omega)).trans hhw) 0 (by simp), cell_cellsN ((hV.block _ (by omega)).trans hhw) 1 (by simp), cell_cellsN ((hV.block _ (by omega)).trans htn) 0 (by simp), cell_cellsN ((hV.block _ (by omega)).trans htn) 1 (by simp)⟩))
  have HBW := Lib.hid hbW
  have HLT := Lib.hid (show w.heap.size ≤ W.heap.size by omega)
  have q25 := ptr_nil
  have q30 : ∀ (w : World) (a : Addr), (binOp .eql 30 (.pointer (some a)) (.pointer none)).run Try.prog w = .ok (.bool false) w := fun w a => by kernel_rfl
  have hw0 : IntKind.u32.wrap h0 = h0 := IntWalk.u32_in _ (by omega)
  have KM := Lib.hid (fun V => refmay_calls V a b c d e f)
  have H0 := Lib.hid hh0
  have HLA := Lib.hid hla
  have HT0 := Lib.hid ht0
  have HT1 := Lib.hid ht1
  clear hl hhw htn hb1 hb2 hb3 hbW hlt hs1 hs2 ht0 ht1 hh0 hla
  go_enter Try.func3, Try.ntmps3
  go_upto_region 3 with (go_at_call 8; refine (trusted_calls _).mono ?_; rintro en w1 ⟨rfl, hb1⟩; have HB1 := Lib.hid hb1; clear hb1)
  clear hW hW1 hW2
  obtain ⟨c0, c1, c2, c3, c4, c5⟩ := LC.out w1 HB1.out
  obtain ⟨g0, g1, g2, g3⟩ := BC.out w1 HB1.out
  go_upto_region 5 with fail
  have KM1 := KM.out w1
  cases hm : mayL (a, b, c, d, e, f) with
  | false =>
    rw [hm] at KM1
    have KM1 := Lib.hid KM1
    go_wp2_with (go_at_call 9; with_reducible refine KM1.out.mono ?_; rintro en w2 ⟨rfl, hb2⟩; have HB2 := Lib.hid (HB1.out.trans (hb2.mono HB1.out.size)); clear hb2)
    go_ret
    exact ⟨rfl, HBW.out.trans (HB2.out.mono HLT.out)⟩
  | true =>
    rw [hm] at KM1
    have KM1 := Lib.hid KM1
    have HM := Lib.hid hm
    have hml := (mayL_iff (a, b, c, d, e, f)).1 hm
    have HML := Lib.hid hml
    clear hm hml
    by_cases hz : h0 = 0
    · have b1 : (h0 == 0) = true := by simpa using hz
      go_wp2_with (go_at_call 9; with_reducible refine KM1.out.mono ?_; rintro en w2 ⟨rfl, hb2⟩; have HB2 := Lib.hid (HB1.out.trans (hb2.mono HB1.out.size)); clear hb2)
      go_ret
      exact ⟨rfl, HBW.out.trans (HB2.out.mono HLT.out)⟩
    · have b1 : (h0 == 0) = false := by simpa using hz
      have HZ := Lib.hid hz
      by_cases hlife : d > 1073741824
      · have b2 : decide (d > 1073741824) = true := decide_eq_true hlife
        go_wp2_with (go_at_call 9; with_reducible refine KM1.out.mono ?_; rintro en w2 ⟨rfl, hb2⟩; have HB2 := Lib.hid (HB1.out.trans (hb2.mono HB1.out.size)); obtain ⟨d0, d1, d2, d3, d4, d5⟩ := LC.out w2 HB2.out; clear hb2)
        go_ret
        exact ⟨rfl, HBW.out.trans (HB2.out.mono HLT.out)⟩
      · have b2 : decide (d > 1073741824) = false := decide_eq_false hlife
        have HD := Lib.hid (show 1 ≤ d ∧ d ≤ 1073741824 from ⟨by have := HML.out.2.2.2.1.1; exact this, by omega⟩)
        clear hz
        go_upto_region 7 with (go_at_call 9; with_reducible refine KM1.out.mono ?_; rintro en w2 ⟨rfl, hb2⟩; have HB2 := Lib.hid (HB1.out.trans (hb2.mono HB1.out.size)); obtain ⟨d0, d1, d2, d3, d4, d5⟩ := LC.out w2 HB2.out; clear hb2)
        clear c0 c1 c2 c3 c4 c5 hlife b1 b2 d0 d1 d2 d3 d4 d5 KM1
        go_upto_region 8 with (go_at_call 10; refine (Nt.one_new _).mono ?_; rintro en w3 ⟨gN, rfl, hN, hb⟩; have HN := Lib.hid hN; have HB3 := Lib.hid (show Below W.heap.size W w3 from HB2.out.trans (hb.mono HB2.out.size)); obtain ⟨d0, d1, d2, d3, d4, d5⟩ := LC.out w3 HB3.out; clear hN hb)
        go_upto_region 11 with (go_at_call 11; refine (new_k 9 a b c d e f gN HN.out HM.out (by decide)).mono ?_; rintro en w4 ⟨r, rfl, hr, hb⟩; have HK4 := Lib.hid (hr.sub (fun k hk => Nat.lt_of_lt_of_le hk HB2.out.size)); have HB4 := Lib.hid (show Below W.heap.size W w4 from HB3.out.trans (hb.mono HB3.out.size)); clear hr hb)
        clear d0 d1 d2 d3 d4 d5
        have k6 := res_k HK4.out (by omega) 5 2 h0
        unfold ResK at k6
        rcases top_res (a, b, c, d, e, f) HD.out h0 HZ.out with hg | ⟨hg1, hg2⟩
        · obtain ⟨u, hu⟩ : ∃ u, (ResT (newS 9 (a, b, c, d, e, f) []) 5 2 h0).1 = u := ⟨_, rfl⟩
          obtain ⟨g, hgc⟩ : ∃ g, (ResT (newS 9 (a, b, c, d, e, f) []) 5 2 h0).2.1 = g := ⟨_, rfl⟩
          rw [hu, hgc] at k6
          rw [hgc] at hg
          have K6 := Lib.hid k6
          clear k6 hu hgc
          rcases hg with ⟨hl, hg⟩ | ⟨hl, hg⟩
          · subst hg
            have b1 : (b == 0) = true := by have := HML.out.2.1.1; dsimp only at this hl; simp; omega
            clear hl
            go_upto_region 12 with (go_at_call 12; with_reducible refine K6.out.mono ?_; rintro en w6 ⟨v, sz, rfl, _, hsz, hk, hkp⟩; have HB6 := Lib.hid (show Below W.heap.size W w6 from HB4.out.trans (hkp.toBelow (fun i hi => hi) HB4.out.size)); obtain ⟨d0, d1, d2, d3, d4, d5⟩ := LC.out w6 HB6.out; clear hsz hk hkp)
            go_wp2
            go_ret
            exact ⟨rfl, HBW.out.trans (HB6.out.mono HLT.out)⟩
          · subst hg
            have b1 : (a == 0) = true := by have := HML.out.1.1; dsimp only at this hl; simp; omega
            clear hl
            go_upto_region 12 with (go_at_call 12; with_reducible refine K6.out.mono ?_; rintro en w6 ⟨v, sz, rfl, _, hsz, hk, hkp⟩; have HB6 := Lib.hid (show Below W.heap.size W w6 from HB4.out.trans (hkp.toBelow (fun i hi => hi) HB4.out.size)); obtain ⟨d0, d1, d2, d3, d4, d5⟩ := LC.out w6 HB6.out; clear hsz hk hkp)
            go_wp2
            go_ret
            exact ⟨rfl, HBW.out.trans (HB6.out.mono HLT.out)⟩
        · rw [hg1, hg2] at k6
          dsimp only at k6
          obtain ⟨u, hu⟩ : ∃ u, 5 + d = u := ⟨_, rfl⟩
          rw [hu] at k6
          have HU := Lib.hid (show 5 < u ∧ u ≤ 1073741829 by have := HD.out; omega)
          have HV := Lib.hid (show By.mayF 9 2 u = true from may_u HU.out.1 HU.out.2)
          have K6 := Lib.hid k6
          clear k6 hg1 hg2 hu
          go_upto_region 12 with (go_at_call 12; with_reducible refine K6.out.mono ?_; rintro en w6 ⟨v, sz, rfl, hR, hsz, hk, hkp⟩; have HR6 := Lib.hid (hR rfl); have HK6 := Lib.hid hk; have HB6 := Lib.hid (show Below W.heap.size W w6 from HB4.out.trans (hkp.toBelow (fun i hi => hi) HB4.out.size)); clear hR hsz hk hkp)
          obtain ⟨A3, c3, hv3, hc3, hC3⟩ := Kd.R_reads HR6.out
          obtain ⟨m3, hm3⟩ : ∃ m, (By.vouchI (newS 9 (a, b, c, d, e, f) []).own 2 u 1).length = m := ⟨_, rfl⟩
          have hml3 : m3 ≤ 50 := by rw [← hm3]; exact vlen _ _ _ _
          have hmp3 : 0 < m3 := by rw [← hm3]; exact vouch_pos _ _ _ _
          rw [hm3] at hv3 hc3 hC3
          subst hv3
          have HM3 := Lib.hid (show (By.vouchI 9 2 u 1).length = m3 from hm3)
          have HC3 := Lib.hid (show (Kd.int .u8).C w6 A3 m3 (By.vouchI 9 2 u 1) from hC3)
          have HCL3 := Lib.hid hc3
          obtain ⟨t, ht⟩ : ∃ t, 5 + late = t := ⟨_, rfl⟩
          have hw1 : wrap64 late = late := by have := HLA.out; unfold wrap64; omega
          have hw2 : wrap64 t = t := by have := HLA.out; unfold wrap64; omega
          have HT := Lib.hid (show 5 ≤ t ∧ t ≤ 1099511627776 by have := HLA.out; omega)
          have HRR := Lib.hid (show (Kd.int .u8).R 5 w6 sz (fun k => sz ≤ k ∧ k < w6.heap.size) (.slice A3 m3 c3) (By.vouchI 9 2 u 1) from HR6.out)
          clear hm3 hc3 hC3 K6 HR6
          obtain ⟨g0, g1, g2, g3⟩ := BC.out w6 HB6.out
          go_upto_region 15 with fail
          clear g0 g1 g2 g3
          have k7 := check_k HK6.out (by omega) A3 m3 c3 (By.vouchI 9 2 u 1) 9 2 t HM3.out.symm HC3.out HCL3.out (vbytes HV.out (by decide)) (by omega)
          dsimp only at k7
          rw [check_own HV.out] at k7
          have htc := top_con (a, b, c, d, e, f) HM.out h0 u t [(9, By.textL [9, 2, u])] HT.out.1 HT.out.2
          have KC := Lib.hid (fun (w7 : World) (hb : Below w6.heap.size w6 w7) => con_k (HK6.out.step hb) (by omega) t 3 2)
          unfold ConK at KC
          obtain ⟨⟨x1, h, s'⟩, hq⟩ : ∃ q, ConT ⟨9, (a, b, c, d, e, f), [(2, h0, u)], 5, [], [], 0, 0, [(9, By.textL [9, 2, u])], 5⟩ t 3 2 = q := ⟨_, rfl⟩
          rw [hq] at htc KC
          have HSN := Lib.hid (con_own hq)
          clear hq
          dsimp only at htc
          rcases htc with ⟨h1, h2⟩ | ⟨h1, h3, h2⟩ | ⟨h1, h3, h2⟩
          · rw [if_pos h1] at k7
            subst h2
            have b1 : decide (t < u) = false := decide_eq_false (by omega)
            have b2 : decide (t ≥ u) = true := decide_eq_true (by omega)
            clear h1
            have K7 := Lib.hid k7
            clear k7
            go_upto_region 16 with (go_at_call 13; with_reducible refine K7.out.mono ?_; rintro en w7 ⟨rfl, hb⟩; have HB67 := Lib.hid hb; have HB7 := Lib.hid (HB6.out.trans (hb.mono HB6.out.size)); clear hb)
            have K8 := Lib.hid (KC.out w7 HB67.out)
            go_upto_region 17 with (go_at_call 14; with_reducible refine K8.out.mono ?_; rintro en w8 ⟨rfl, hk, hkp⟩; have HK8 := Lib.hid (hk.sub (fun k (e : k < W.heap.size) => .inl (.inl e))); have HP8 := Lib.hid hkp; have HB8 := Lib.hid (show Below W.heap.size W w8 from HB7.out.trans (hkp.toBelow (fun i hi => .inl (.inl hi)) HB7.out.size)); clear hk hkp)
            obtain ⟨d0, d1, d2, d3, d4, d5⟩ := LC.out w8 HB8.out
            go_upto_region 21 with fail
            clear d0 d1 d2 d3 d4 d5 b1 b2  hw1 hw2 ht K7 K8
            have HC8 := Lib.hid (bytes_stay HRR.out (w' := w8) (fun k hk => (HP8.out.2.2.2.2 k (.inl (.inr hk))).trans (HB67.out.block k hk.2)))
            have hal : Below w8.heap.size w8 (w8.alloc (.cells #[] 5)) := (Below.refl _ _).alloc (Nat.le_refl _) _
            have HAL := Lib.hid hal
            have HRe := Lib.hid (empty_row w8 w8.heap.size (fun _ => True) (Nat.le_refl _) trivial)
            have HC8' := Lib.hid (Kd.C_below HC8.out hal)
            clear hal
            go_upto_region 22 with ((with_reducible refine gate_builtin (b := .append) (xs := #[.tmp 137, .tmp 138]) rfl ?_); at_builtin; refine By.append_apd (w0 := w8) w8.heap.size rfl (.tmp 137) (.tmp 138) rfl (.slice (some ⟨w8.heap.size, 0, none⟩) 0 0) [] (By.vouchI 9 2 u 1) A3 m3 c3 rfl rfl (.inl HRe.out) HC8'.out (by omega) HAL.out HAL.out.size (by simp; omega) ?_; intro v9 w9 ho9 hb9; rw [List.nil_append] at ho9; obtain ⟨A9, c9, hv9, hc9, _⟩ := Kd.R_reads ho9; rw [HM3.out] at hv9 hc9; subst hv9; have CL9 := Lib.hid hc9; have HO9 := Lib.hid ho9; have HB9 := Lib.hid hb9; clear ho9 hb9)
            obtain ⟨g9, hA9⟩ : ∃ g9, A9 = some ⟨g9, 0, none⟩ := by
              obtain ⟨inner, ho⟩ := Kd.R_own HO9.out
              rcases ho.2 with ⟨e, _⟩ | ⟨g', cap, cur, e, _⟩
              · injection e with e1 e2 e3
                omega
              · injection e with e1 e2 e3
                exact ⟨g', e1⟩
            subst hA9
            obtain ⟨i, hi1, hi2⟩ := some_mod (wrap64 t0) m3 (by have := HT0.out; unfold wrap64; omega) hmp3
            obtain ⟨x, y, B', hy, l9, f9, hg9, hB1, hB2, hB3, hB4⟩ := byte_facts HO9.out HM3.out hi2 HV.out HU.out.1 HT1.out
            have HCS := Lib.hid hB1
            have HBL := Lib.hid hB2
            have HYB := Lib.hid hB3
            have hn0 : ¬ (m3 : Int) = 0 := by omega
            have hiI : (i : Int) < (m3 : Int) := by omega
            have HB89 := Lib.hid (HB9.out.setCell (p := ⟨g9, i, none⟩) hg9 (.int .u8 y))
            have HB19 := Lib.hid (HB8.out.trans (HB89.out.mono HB8.out.size))
            obtain ⟨g0, g1, g2, g3⟩ := BC.out w9 (HB8.out.trans (HB9.out.mono HB8.out.size))
            have HTP := Lib.hid hB4
            clear hg9 hB1 hB2 hB3 hB4
            go_upto_region 23 with fail
            go_region
            go_upto_region 24 with fail
            clear g0 g1 g2 g3 l9 f9 hy
            obtain ⟨w10, hw10⟩ : ∃ w10, (w9.setCell ⟨g9, i, none⟩ (.int .u8 y)).drew = w10 := ⟨_, rfl⟩
            have HB9X := Lib.hid (show Below w8.heap.size w8 w10 by rw [← hw10]; exact HB89.out.trans ((drew_below _).mono HB89.out.size))
            have HB10 := Lib.hid (HB8.out.trans (HB9X.out.mono HB8.out.size))
            have HC10 := Lib.hid (show (Kd.int .u8).C w10 (some ⟨g9, 0, none⟩) m3 B' by rw [← hw10]; exact Kd.C_below HCS.out (drew_below _))
            have hcl9 : m3 ≤ c9 := CL9.out
            have k11 := check_k (HK8.out.step HB9X.out) (by omega) (some ⟨g9, 0, none⟩) m3 c9 B' 9 2 5 HBL.out.symm HC10.out hcl9 HYB.out (by omega)
            rw [HSN.out] at k11
            try dsimp only at k11
            obtain ⟨⟨wv, kv⟩, hck⟩ : ∃ q, By.checkV [(9, By.textL [9, 2, u])] B' 9 2 5 = q := ⟨_, rfl⟩
            rw [hck] at k11
            have htp := HTP.out
            rw [hck] at htp
            try dsimp only at htp
            try dsimp only at k11
            have K11 := Lib.hid k11
            rw [hw10]
            clear k11 hck hw10
            have HMC := Lib.hid (fun (w11 : World) (hb : Below w10.heap.size w10 w11) => (show Calls Try.prog 13 #[.pointer (some ⟨gN, 0, none⟩), .slice A3 i c3, .int .i64 9, .int .i64 2, .int .i64 5] w11 fun en w' => en = .returned (.tuple #[.int .i64 0, .int .i64 3]) ∧ Below w11.heap.size w11 w' from by
              have k := check_k (HK8.out.step (HB9X.out.trans (hb.mono HB9X.out.size))) (by omega) A3 i c3 ((By.vouchI 9 2 u 1).take i) 9 2 5 (by rw [List.length_take, HM3.out]; omega) (bytes_pre HC8.out (HB9X.out.trans (hb.mono HB9X.out.size)) HM3.out hi2) (by have := HCL3.out; omega) (bytes_take (vbytes HV.out (by decide)) i) (by omega)
              rw [HSN.out] at k
              try dsimp only at k
              rw [check_cut HV.out (by rw [HM3.out]; exact hi2)] at k
              exact k))
            go_upto_region 25 with (go_at_call 13; (with_reducible refine K11.out.mono ?_); rintro en w11 ⟨rfl, hb⟩; have HB1011 := Lib.hid hb; have HB11 := Lib.hid (HB10.out.trans (hb.mono HB10.out.size)); clear hb)
            have K12 := Lib.hid (HMC.out w11 HB1011.out)
            obtain ⟨g0, g1, g2, g3⟩ := BC.out w11 HB11.out
            have hic : i ≤ c3 := by have := HCL3.out; omega
            have hicI : (i : Int) ≤ (c3 : Int) := by omega
            go_upto_region 26 with (go_at_call 13; (with_reducible refine K12.out.mono ?_); rintro en w12 ⟨rfl, hb⟩; have HB12 := Lib.hid (HB11.out.trans (hb.mono HB11.out.size)); clear hb)
            clear g0 g1 g2 g3 hi1 hn0
            obtain ⟨g0, g1, g2, g3⟩ := BC.out w12 HB12.out
            rcases htp with ⟨e1, e2⟩ | ⟨e1, e2⟩
            · obtain ⟨rfl, rfl⟩ := Prod.mk.inj e2
              have b5 : (t1 == 0) = true := by simpa using e1
              have b6 : (wv == wv) = true := by simp
              clear e1 e2
              go_wp2
              go_ret
              exact ⟨rfl, HBW.out.trans (HB12.out.mono HLT.out)⟩
            · have b5 : (t1 == 0) = false := by simpa using e1
              have b6 : (kv == 0) = false := by simpa using e2
              have b7 : (kv != 0) = true := by simpa using e2
              clear e1 e2
              go_wp2
              go_ret
              exact ⟨rfl, HBW.out.trans (HB12.out.mono HLT.out)⟩
          · rw [if_neg h1] at k7
            subst h2
            have b1 : decide (t < u) = true := decide_eq_true (by omega)
            have b2 : decide (t ≥ u) = false := decide_eq_false (by omega)
            have b3 : decide (c > 0) = false := decide_eq_false (by omega)
            have b4 : (u != u) = false := by simp
            clear h1 h3
            have K7 := Lib.hid k7
            clear k7
            go_upto_region 16 with (go_at_call 13; with_reducible refine K7.out.mono ?_; rintro en w7 ⟨rfl, hb⟩; have HB67 := Lib.hid hb; have HB7 := Lib.hid (HB6.out.trans (hb.mono HB6.out.size)); clear hb)
            have K8 := Lib.hid (KC.out w7 HB67.out)
            go_upto_region 17 with (go_at_call 14; with_reducible refine K8.out.mono ?_; rintro en w8 ⟨rfl, hk, hkp⟩; have HK8 := Lib.hid (hk.sub (fun k (e : k < W.heap.size) => .inl (.inl e))); have HP8 := Lib.hid hkp; have HB8 := Lib.hid (show Below W.heap.size W w8 from HB7.out.trans (hkp.toBelow (fun i hi => .inl (.inl hi)) HB7.out.size)); clear hk hkp)
            obtain ⟨d0, d1, d2, d3, d4, d5⟩ := LC.out w8 HB8.out
            go_upto_region 21 with fail
            clear d0 d1 d2 d3 d4 d5 b1 b2 b3 b4 hw1 hw2 ht K7 K8
            have HC8 := Lib.hid (bytes_stay HRR.out (w' := w8) (fun k hk => (HP8.out.2.2.2.2 k (.inl (.inr hk))).trans (HB67.out.block k hk.2)))
            have hal : Below w8.heap.size w8 (w8.alloc (.cells #[] 5)) := (Below.refl _ _).alloc (Nat.le_refl _) _
            have HAL := Lib.hid hal
            have HRe := Lib.hid (empty_row w8 w8.heap.size (fun _ => True) (Nat.le_refl _) trivial)
            have HC8' := Lib.hid (Kd.C_below HC8.out hal)
            clear hal
            go_upto_region 22 with ((with_reducible refine gate_builtin (b := .append) (xs := #[.tmp 137, .tmp 138]) rfl ?_); at_builtin; refine By.append_apd (w0 := w8) w8.heap.size rfl (.tmp 137) (.tmp 138) rfl (.slice (some ⟨w8.heap.size, 0, none⟩) 0 0) [] (By.vouchI 9 2 u 1) A3 m3 c3 rfl rfl (.inl HRe.out) HC8'.out (by omega) HAL.out HAL.out.size (by simp; omega) ?_; intro v9 w9 ho9 hb9; rw [List.nil_append] at ho9; obtain ⟨A9, c9, hv9, hc9, _⟩ := Kd.R_reads ho9; rw [HM3.out] at hv9 hc9; subst hv9; have CL9 := Lib.hid hc9; have HO9 := Lib.hid ho9; have HB9 := Lib.hid hb9; clear ho9 hb9)
            obtain ⟨g9, hA9⟩ : ∃ g9, A9 = some ⟨g9, 0, none⟩ := by
              obtain ⟨inner, ho⟩ := Kd.R_own HO9.out
              rcases ho.2 with ⟨e, _⟩ | ⟨g', cap, cur, e, _⟩
              · injection e with e1 e2 e3
                omega
              · injection e with e1 e2 e3
                exact ⟨g', e1⟩
            subst hA9
            obtain ⟨i, hi1, hi2⟩ := some_mod (wrap64 t0) m3 (by have := HT0.out; unfold wrap64; omega) hmp3
            obtain ⟨x, y, B', hy, l9, f9, hg9, hB1, hB2, hB3, hB4⟩ := byte_facts HO9.out HM3.out hi2 HV.out HU.out.1 HT1.out
            have HCS := Lib.hid hB1
            have HBL := Lib.hid hB2
            have HYB := Lib.hid hB3
            have hn0 : ¬ (m3 : Int) = 0 := by omega
            have hiI : (i : Int) < (m3 : Int) := by omega
            have HB89 := Lib.hid (HB9.out.setCell (p := ⟨g9, i, none⟩) hg9 (.int .u8 y))
            have HB19 := Lib.hid (HB8.out.trans (HB89.out.mono HB8.out.size))
            obtain ⟨g0, g1, g2, g3⟩ := BC.out w9 (HB8.out.trans (HB9.out.mono HB8.out.size))
            have HTP := Lib.hid hB4
            clear hg9 hB1 hB2 hB3 hB4
            go_upto_region 23 with fail
            go_region
            go_upto_region 24 with fail
            clear g0 g1 g2 g3 l9 f9 hy
            obtain ⟨w10, hw10⟩ : ∃ w10, (w9.setCell ⟨g9, i, none⟩ (.int .u8 y)).drew = w10 := ⟨_, rfl⟩
            have HB9X := Lib.hid (show Below w8.heap.size w8 w10 by rw [← hw10]; exact HB89.out.trans ((drew_below _).mono HB89.out.size))
            have HB10 := Lib.hid (HB8.out.trans (HB9X.out.mono HB8.out.size))
            have HC10 := Lib.hid (show (Kd.int .u8).C w10 (some ⟨g9, 0, none⟩) m3 B' by rw [← hw10]; exact Kd.C_below HCS.out (drew_below _))
            have hcl9 : m3 ≤ c9 := CL9.out
            have k11 := check_k (HK8.out.step HB9X.out) (by omega) (some ⟨g9, 0, none⟩) m3 c9 B' 9 2 5 HBL.out.symm HC10.out hcl9 HYB.out (by omega)
            rw [HSN.out] at k11
            try dsimp only at k11
            obtain ⟨⟨wv, kv⟩, hck⟩ : ∃ q, By.checkV [(9, By.textL [9, 2, u])] B' 9 2 5 = q := ⟨_, rfl⟩
            rw [hck] at k11
            have htp := HTP.out
            rw [hck] at htp
            try dsimp only at htp
            try dsimp only at k11
            have K11 := Lib.hid k11
            rw [hw10]
            clear k11 hck hw10
            have HMC := Lib.hid (fun (w11 : World) (hb : Below w10.heap.size w10 w11) => (show Calls Try.prog 13 #[.pointer (some ⟨gN, 0, none⟩), .slice A3 i c3, .int .i64 9, .int .i64 2, .int .i64 5] w11 fun en w' => en = .returned (.tuple #[.int .i64 0, .int .i64 3]) ∧ Below w11.heap.size w11 w' from by
              have k := check_k (HK8.out.step (HB9X.out.trans (hb.mono HB9X.out.size))) (by omega) A3 i c3 ((By.vouchI 9 2 u 1).take i) 9 2 5 (by rw [List.length_take, HM3.out]; omega) (bytes_pre HC8.out (HB9X.out.trans (hb.mono HB9X.out.size)) HM3.out hi2) (by have := HCL3.out; omega) (bytes_take (vbytes HV.out (by decide)) i) (by omega)
              rw [HSN.out] at k
              try dsimp only at k
              rw [check_cut HV.out (by rw [HM3.out]; exact hi2)] at k
              exact k))
            go_upto_region 25 with (go_at_call 13; (with_reducible refine K11.out.mono ?_); rintro en w11 ⟨rfl, hb⟩; have HB1011 := Lib.hid hb; have HB11 := Lib.hid (HB10.out.trans (hb.mono HB10.out.size)); clear hb)
            have K12 := Lib.hid (HMC.out w11 HB1011.out)
            obtain ⟨g0, g1, g2, g3⟩ := BC.out w11 HB11.out
            have hic : i ≤ c3 := by have := HCL3.out; omega
            have hicI : (i : Int) ≤ (c3 : Int) := by omega
            go_upto_region 26 with (go_at_call 13; (with_reducible refine K12.out.mono ?_); rintro en w12 ⟨rfl, hb⟩; have HB12 := Lib.hid (HB11.out.trans (hb.mono HB11.out.size)); clear hb)
            clear g0 g1 g2 g3 hi1 hn0
            obtain ⟨g0, g1, g2, g3⟩ := BC.out w12 HB12.out
            rcases htp with ⟨e1, e2⟩ | ⟨e1, e2⟩
            · obtain ⟨rfl, rfl⟩ := Prod.mk.inj e2
              have b5 : (t1 == 0) = true := by simpa using e1
              have b6 : (wv == wv) = true := by simp
              clear e1 e2
              go_wp2
              go_ret
              exact ⟨rfl, HBW.out.trans (HB12.out.mono HLT.out)⟩
            · have b5 : (t1 == 0) = false := by simpa using e1
              have b6 : (kv == 0) = false := by simpa using e2
              have b7 : (kv != 0) = true := by simpa using e2
              clear e1 e2
              go_wp2
              go_ret
              exact ⟨rfl, HBW.out.trans (HB12.out.mono HLT.out)⟩
          · rw [if_neg h1] at k7
            subst h2
            have b1 : decide (t < u) = true := decide_eq_true (by omega)
            have b2 : decide (t ≥ u) = false := decide_eq_false (by omega)
            have b3 : decide (c > 0) = true := decide_eq_true (by omega)
            have b4 : (u != u) = false := by simp
            clear h1 h3
            have K7 := Lib.hid k7
            clear k7
            go_upto_region 16 with (go_at_call 13; with_reducible refine K7.out.mono ?_; rintro en w7 ⟨rfl, hb⟩; have HB67 := Lib.hid hb; have HB7 := Lib.hid (HB6.out.trans (hb.mono HB6.out.size)); clear hb)
            have K8 := Lib.hid (KC.out w7 HB67.out)
            go_upto_region 17 with (go_at_call 14; with_reducible refine K8.out.mono ?_; rintro en w8 ⟨rfl, hk, hkp⟩; have HK8 := Lib.hid (hk.sub (fun k (e : k < W.heap.size) => .inl (.inl e))); have HP8 := Lib.hid hkp; have HB8 := Lib.hid (show Below W.heap.size W w8 from HB7.out.trans (hkp.toBelow (fun i hi => .inl (.inl hi)) HB7.out.size)); clear hk hkp)
            obtain ⟨d0, d1, d2, d3, d4, d5⟩ := LC.out w8 HB8.out
            go_upto_region 21 with fail
            clear d0 d1 d2 d3 d4 d5 b1 b2 b3 b4 hw1 hw2 ht K7 K8
            have HC8 := Lib.hid (bytes_stay HRR.out (w' := w8) (fun k hk => (HP8.out.2.2.2.2 k (.inl (.inr hk))).trans (HB67.out.block k hk.2)))
            have hal : Below w8.heap.size w8 (w8.alloc (.cells #[] 5)) := (Below.refl _ _).alloc (Nat.le_refl _) _
            have HAL := Lib.hid hal
            have HRe := Lib.hid (empty_row w8 w8.heap.size (fun _ => True) (Nat.le_refl _) trivial)
            have HC8' := Lib.hid (Kd.C_below HC8.out hal)
            clear hal
            go_upto_region 22 with ((with_reducible refine gate_builtin (b := .append) (xs := #[.tmp 137, .tmp 138]) rfl ?_); at_builtin; refine By.append_apd (w0 := w8) w8.heap.size rfl (.tmp 137) (.tmp 138) rfl (.slice (some ⟨w8.heap.size, 0, none⟩) 0 0) [] (By.vouchI 9 2 u 1) A3 m3 c3 rfl rfl (.inl HRe.out) HC8'.out (by omega) HAL.out HAL.out.size (by simp; omega) ?_; intro v9 w9 ho9 hb9; rw [List.nil_append] at ho9; obtain ⟨A9, c9, hv9, hc9, _⟩ := Kd.R_reads ho9; rw [HM3.out] at hv9 hc9; subst hv9; have CL9 := Lib.hid hc9; have HO9 := Lib.hid ho9; have HB9 := Lib.hid hb9; clear ho9 hb9)
            obtain ⟨g9, hA9⟩ : ∃ g9, A9 = some ⟨g9, 0, none⟩ := by
              obtain ⟨inner, ho⟩ := Kd.R_own HO9.out
              rcases ho.2 with ⟨e, _⟩ | ⟨g', cap, cur, e, _⟩
              · injection e with e1 e2 e3
                omega
              · injection e with e1 e2 e3
                exact ⟨g', e1⟩
            subst hA9
            obtain ⟨i, hi1, hi2⟩ := some_mod (wrap64 t0) m3 (by have := HT0.out; unfold wrap64; omega) hmp3
            obtain ⟨x, y, B', hy, l9, f9, hg9, hB1, hB2, hB3, hB4⟩ := byte_facts HO9.out HM3.out hi2 HV.out HU.out.1 HT1.out
            have HCS := Lib.hid hB1
            have HBL := Lib.hid hB2
            have HYB := Lib.hid hB3
            have hn0 : ¬ (m3 : Int) = 0 := by omega
            have hiI : (i : Int) < (m3 : Int) := by omega
            have HB89 := Lib.hid (HB9.out.setCell (p := ⟨g9, i, none⟩) hg9 (.int .u8 y))
            have HB19 := Lib.hid (HB8.out.trans (HB89.out.mono HB8.out.size))
            obtain ⟨g0, g1, g2, g3⟩ := BC.out w9 (HB8.out.trans (HB9.out.mono HB8.out.size))
            have HTP := Lib.hid hB4
            clear hg9 hB1 hB2 hB3 hB4
            go_upto_region 23 with fail
            go_region
            go_upto_region 24 with fail
            clear g0 g1 g2 g3 l9 f9 hy
            obtain ⟨w10, hw10⟩ : ∃ w10, (w9.setCell ⟨g9, i, none⟩ (.int .u8 y)).drew = w10 := ⟨_, rfl⟩
            have HB9X := Lib.hid (show Below w8.heap.size w8 w10 by rw [← hw10]; exact HB89.out.trans ((drew_below _).mono HB89.out.size))
            have HB10 := Lib.hid (HB8.out.trans (HB9X.out.mono HB8.out.size))
            have HC10 := Lib.hid (show (Kd.int .u8).C w10 (some ⟨g9, 0, none⟩) m3 B' by rw [← hw10]; exact Kd.C_below HCS.out (drew_below _))
            have hcl9 : m3 ≤ c9 := CL9.out
            have k11 := check_k (HK8.out.step HB9X.out) (by omega) (some ⟨g9, 0, none⟩) m3 c9 B' 9 2 5 HBL.out.symm HC10.out hcl9 HYB.out (by omega)
            rw [HSN.out] at k11
            try dsimp only at k11
            obtain ⟨⟨wv, kv⟩, hck⟩ : ∃ q, By.checkV [(9, By.textL [9, 2, u])] B' 9 2 5 = q := ⟨_, rfl⟩
            rw [hck] at k11
            have htp := HTP.out
            rw [hck] at htp
            try dsimp only at htp
            try dsimp only at k11
            have K11 := Lib.hid k11
            rw [hw10]
            clear k11 hck hw10
            have HMC := Lib.hid (fun (w11 : World) (hb : Below w10.heap.size w10 w11) => (show Calls Try.prog 13 #[.pointer (some ⟨gN, 0, none⟩), .slice A3 i c3, .int .i64 9, .int .i64 2, .int .i64 5] w11 fun en w' => en = .returned (.tuple #[.int .i64 0, .int .i64 3]) ∧ Below w11.heap.size w11 w' from by
              have k := check_k (HK8.out.step (HB9X.out.trans (hb.mono HB9X.out.size))) (by omega) A3 i c3 ((By.vouchI 9 2 u 1).take i) 9 2 5 (by rw [List.length_take, HM3.out]; omega) (bytes_pre HC8.out (HB9X.out.trans (hb.mono HB9X.out.size)) HM3.out hi2) (by have := HCL3.out; omega) (bytes_take (vbytes HV.out (by decide)) i) (by omega)
              rw [HSN.out] at k
              try dsimp only at k
              rw [check_cut HV.out (by rw [HM3.out]; exact hi2)] at k
              exact k))
            go_upto_region 25 with (go_at_call 13; (with_reducible refine K11.out.mono ?_); rintro en w11 ⟨rfl, hb⟩; have HB1011 := Lib.hid hb; have HB11 := Lib.hid (HB10.out.trans (hb.mono HB10.out.size)); clear hb)
            have K12 := Lib.hid (HMC.out w11 HB1011.out)
            obtain ⟨g0, g1, g2, g3⟩ := BC.out w11 HB11.out
            have hic : i ≤ c3 := by have := HCL3.out; omega
            have hicI : (i : Int) ≤ (c3 : Int) := by omega
            go_upto_region 26 with (go_at_call 13; (with_reducible refine K12.out.mono ?_); rintro en w12 ⟨rfl, hb⟩; have HB12 := Lib.hid (HB11.out.trans (hb.mono HB11.out.size)); clear hb)
            clear g0 g1 g2 g3 hi1 hn0
            obtain ⟨g0, g1, g2, g3⟩ := BC.out w12 HB12.out
            rcases htp with ⟨e1, e2⟩ | ⟨e1, e2⟩
            · obtain ⟨rfl, rfl⟩ := Prod.mk.inj e2
              have b5 : (t1 == 0) = true := by simpa using e1
              have b6 : (wv == wv) = true := by simp
              clear e1 e2
              go_wp2
              go_ret
              exact ⟨rfl, HBW.out.trans (HB12.out.mono HLT.out)⟩
            · have b5 : (t1 == 0) = false := by simpa using e1
              have b6 : (kv == 0) = false := by simpa using e2
              have b7 : (kv != 0) = true := by simpa using e2
              clear e1 e2
              go_wp2
              go_ret
              exact ⟨rfl, HBW.out.trans (HB12.out.mono HLT.out)⟩
end Go.Proofs.Yteajlffchdbkjaa.Re
namespace Go.Proofs.Yteajlffchdbkjaa.Re
open Go.RowKit Go.Maps Go.Proofs.Yteajlffchdbkjaa.Rv
set_option linter.unusedVariables false
theorem vouched_row (cs : Array Value) (x : LimV) (h0 late t0 t1 : Int) (w : World) (hr : dLim.K w x (Value.agg cs).cells.toList) (hw : True) (k0 : (Lit.int .u16 h0).wf = true) (k1 : (Lit.int .u16 late).wf = true) (k2 : (Lit.int .u8 t0).wf = true) (k3 : (Lit.int .u8 t1).wf = true) :
    Calls Try.prog 3 #[.agg cs, .agg #[.int .u16 h0, .int .u16 late], .agg #[.int .u8 t0, .int .u8 t1]] w fun e w' => e = .returned (.bool true) ∧ Below w.heap.size w w' := by
  obtain rfl := lim_cells_of hr
  exact vouched_calls w x.1 x.2.1 x.2.2.1 x.2.2.2.1 x.2.2.2.2.1 x.2.2.2.2.2 h0 late t0 t1 (wf_bd k0 (by decide) (by decide)) (wf_bd k1 (by decide) (by decide)) (wf_bd k2 (by decide) (by decide)) (wf_bd k3 (by decide) (by decide))
end Go.Proofs.Yteajlffchdbkjaa.Re
