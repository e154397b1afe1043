/-
  ResvCaps, walked. Conditions: numbers are of their kinds.
-/
import Derived.Test.YtglpjoijkinlbaaKb
import Derived.Test.YtglpjoijkinlbaaKr
import Derived.Test.YtglpjoijkinlbaaWEqStruct
import Derived.OwnWalkIn
import Derived.Sort.CutIn
import Derived.Shelf.RegionOpen
namespace Go.Proofs.Ytglpjoijkinlbaa.Rv
open Go.RowKit Go.Maps Go.Shelf Go.Sort Go.Proofs.YtglpjoijkinlbaaW.PrintWords Go.Proofs.YtglpjoijkinlbaaW.PrintLast Go.Proofs.YtglpjoijkinlbaaW.PrintMore
set_option linter.unusedVariables false
set_option linter.unusedSimpArgs false
attribute [local go_sem] Oper.semAt_some max2_int min2_int max_two min_two
abbrev DoV := Int × Int × Int × Int
def doC (x : DoV) : Array Value := #[.int .i64 x.1, .int .i64 x.2.1, .int .i64 x.2.2.1, .int .u32 x.2.2.2]
def SbAt (X : World) (q : Nat) (M L : List HeldP) : Prop := ∃ sb : Bool, Boxed X q 4 (.bool sb) ∧ (M = L → sb = true)
theorem below_drew (B : Nat) (w : World) : Below B w w.drew := ⟨rfl, rfl, rfl, Nat.le_refl _, fun _ _ => rfl⟩
theorem do_cells {V : World} {g : Nat} {q : DoV} (h : V.heap[g]? = some (.cells (doC q) 32 (0, 0))) : V.cell? ⟨g, 0, none⟩ = some (.int .i64 q.1) ∧ V.cell? ⟨g, 1, none⟩ = some (.int .i64 q.2.1) ∧ V.cell? ⟨g, 2, none⟩ = some (.int .i64 q.2.2.1) ∧ V.cell? ⟨g, 3, none⟩ = some (.int .u32 q.2.2.2) :=
  ⟨cell_cellsN h 0 (by simp [doC]), cell_cellsN h 1 (by simp [doC]), cell_cellsN h 2 (by simp [doC]), cell_cellsN h 3 (by simp [doC])⟩
theorem eqHd (d : Nat) (w : World) (a1 a2 a3 b1 b2 b3 : Int) : (Op.equalIn (d + 2) 38 (.agg #[.int .i64 a1, .int .u32 a2, .int .i64 a3]) (.agg #[.int .i64 b1, .int .u32 b2, .int .i64 b3])).run Try.prog w = .ok (a1 == b1 && (a2 == b2 && a3 == b3)) w := by
  refine eqA_of Try.underlying38 (by kernel_rfl) ?_
  refine eqf_cons (by rfl) (by go_simp; rfl) (by go_simp; rfl) (by go_simp) ?_
  refine eqf_cons (by rfl) (by go_simp; rfl) (by go_simp; rfl) (by go_simp) ?_
  exact eqf_last (by rfl) (by go_simp; rfl) (by go_simp; rfl) (by go_simp)
theorem eqHd' (w : World) (a1 a2 a3 b1 b2 b3 : Int) : (binOp .eql 38 (.agg #[.int .i64 a1, .int .u32 a2, .int .i64 a3]) (.agg #[.int .i64 b1, .int .u32 b2, .int .i64 b3])).run Try.prog w = .ok (.bool (decide ((a1, a2, a3) = (b1, b2, b3)))) w := by
  have h : (Op.equal 38 (.agg #[.int .i64 a1, .int .u32 a2, .int .i64 a3]) (.agg #[.int .i64 b1, .int .u32 b2, .int .i64 b3])).run Try.prog w = .ok (a1 == b1 && (a2 == b2 && a3 == b3)) w := eqHd _ w a1 a2 a3 b1 b2 b3
  have e : (a1 == b1 && (a2 == b2 && a3 == b3)) = decide ((a1, a2, a3) = (b1, b2, b3)) := by
    rw [Bool.eq_iff_iff]
    simp
  rw [e] at h
  unfold binOp
  simp only [Sem.run_bind, h, Result.andThen_ok, Sem.run_pure]
theorem rowH_own {V Y : World} {base n : Nat} {v : Value} {xs : List Value} {row : Option Nat} (h : V.ownsRow base 38 3 v n xs) (hg : V.grownBy Y row) (hr : ∀ r, row = some r → ∃ o : Obj, V.heap[r]? = some o ∧ o.isCells = false) : Y.ownsRow base 38 3 v n xs := by
  refine ⟨h.1, ?_⟩
  rcases h.2 with h2 | ⟨gr, cap, cur, h1, h2, h3, h4⟩
  · exact .inl h2
  · refine .inr ⟨gr, cap, cur, h1, h2, (hg.block gr (Array.getElem?_eq_some_iff.1 h3).1 (fun e => ?_)).trans h3, h4⟩
    obtain ⟨o, ho, hc⟩ := hr _ e.symm
    rw [h3] at ho
    cases ho
    cases hc
theorem rowH_set {V : World} {base n : Nat} {v v' : Value} {xs : List Value} {p : Addr} (h : V.ownsRow base 38 3 v n xs) (hp : p.block < base) : (V.setCell p v').ownsRow base 38 3 v n xs := by
  refine ⟨h.1, ?_⟩
  rcases h.2 with h2 | ⟨gr, cap, cur, h1, h2, h3, h4⟩
  · exact .inl h2
  · exact .inr ⟨gr, cap, cur, h1, h2, (Below.heap_setCell _ _ _ _ (by omega)).trans h3, h4⟩
theorem rowH_block {V : World} {base n : Nat} {v : Value} {xs : List Value} (h : V.ownsRow base 38 3 v n xs) : ∀ k, v.ownBlock = some k → base ≤ k ∧ ∃ cur, V.heap[k]? = some (.cells cur 38 (0, 0)) := by
  intro k hk
  rcases h.2 with ⟨h1, h2⟩ | ⟨gr, cap, cur, h1, h2, h3, h4⟩
  · rw [h1] at hk; cases hk
  · rw [h1] at hk
    injection hk with hk
    subst hk
    exact ⟨h2, cur, h3⟩
theorem grown_after {V U X : World} {row : Option Nat} (h : V.grownBy U none) (k : U.grownBy X row) : V.grownBy X row :=
  ⟨k.os.trans h.os, k.tape.trans h.tape, k.output.trans h.output, Nat.le_trans h.size k.size, fun i hi hn => (k.block i (Nat.lt_of_lt_of_le hi h.size) hn).trans (h.block i hi (by simp))⟩
theorem rowH_grow {X : World} {base j : Nat} {v' : Value} {pre : List HeldP} {xp xh xu : Int} (hj : pre.length = j) (h : X.ownsRow base 38 3 v' (j + 1) (flatH pre ++ [.int .i64 xp, .int .u32 xh, .int .i64 xu])) :
    ∃ A' c', v' = .slice A' (j + 1) c' ∧ X.ownsRow base 38 3 v' (pre ++ [(xp, xh, xu)]).length (flatH (pre ++ [(xp, xh, xu)])) := by
  have h2 : X.ownsRow base 38 3 v' (pre ++ [(xp, xh, xu)]).length (flatH (pre ++ [(xp, xh, xu)])) := by
    rw [flatH_snoc, List.length_append, hj]
    exact h
  obtain ⟨A', c', hv, _⟩ := rowH_cells h2
  rw [List.length_append, hj] at hv
  exact ⟨A', c', hv, h2⟩
/-- A step's contract, whatever is asked. -/
theorem caps_step (W : World) (g b n : Nat) (l : LimV) (L : List HeldP) (t p host : Int) (h : TabAt W g b n l L t) (hm : mayL l = true) (hk : KInv l L) (hL : ∀ x ∈ L, t < x.2.2) (hn : n ≤ 1000000) (h0 : 0 ≤ t) (ht : t < 1099511627776) :
    ∃ (u f : Int) (M : List HeldP), Step l L t p host u f M ∧ KInv l M ∧ (∀ x ∈ M, t < x.2.2) ∧ Calls Try.prog 10 #[.pointer (some ⟨g, 0, none⟩), .int .i64 t, .int .i64 p, .int .u32 host] W fun e w' => ∃ n', n' ≤ n + 1 ∧ e = .returned (.tuple #[.int .i64 u, .int .i64 f]) ∧ TabAt w' g b n' l M t ∧ Touch g b W w' := by
  have hb := ((mayL_iff l).1 hm)
  by_cases hok : okRes t t p host
  · have hov := over_none hL
    have K := res_calls W g b n l L t t p host h hok hk.1 hn (by have := hk.2.1; omega) (by omega) (by omega)
    rw [hov] at K
    have hS : Step l L t p host (resG l L t p host).1 (resG l L t p host).2.1 (resG l L t p host).2.2 := by
      rcases res_fits l L t p host with ⟨h1, h2⟩ | ⟨h1, h2, h3⟩
      · exact .inl ⟨h1, h2⟩
      · exact .inr ⟨h1, h2, by rw [h3, h2]⟩
    exact ⟨_, _, _, hS, kinv_res hk t p host hok.1 hok.2.1, step_over hS hL (by omega) ht, K⟩
  · refine ⟨0, 1, L, .inl ⟨by decide, rfl⟩, hk, hL, ?_⟩
    refine (res_bad W g b n l L t t p host h hok).mono ?_
    rintro e w' ⟨h1, h2, h3⟩
    exact ⟨n, by omega, h1, h2, h3⟩
set_option maxRecDepth 100000 in
set_option maxHeartbeats 16000000 in
theorem caps_calls (w : World) (a b c d e f : Int) (A : Option Addr) (cA : Nat) (ps : List DoV) (hcA : ps.length ≤ cA)
    (hr : ∀ V, Below w.heap.size w V → ∀ i (hi : i < ps.length), ∃ ad, A = some ad ∧ V.cell? (ad.add (i * 4)) = some (.int .i64 ps[i].1) ∧ V.cell? ⟨(ad.add (i * 4)).block, (ad.add (i * 4)).off + 1, none⟩ = some (.int .i64 ps[i].2.1) ∧ V.cell? ⟨(ad.add (i * 4)).block, (ad.add (i * 4)).off + 2, none⟩ = some (.int .i64 ps[i].2.2.1) ∧ V.cell? ⟨(ad.add (i * 4)).block, (ad.add (i * 4)).off + 3, none⟩ = some (.int .u32 ps[i].2.2.2)) :
    Calls Try.prog 3 #[.agg #[.int .i64 a, .int .i64 b, .int .i64 c, .int .i64 d, .int .i64 e, .int .i64 f], .slice A ps.length cA] w fun en w' => en = .returned (.bool true) ∧ Below w.heap.size w w' := by
  obtain ⟨W0, hW0⟩ : ∃ W, w.alloc (.cells #[.int .i64 a, .int .i64 b, .int .i64 c, .int .i64 d, .int .i64 e, .int .i64 f] 23) = W := ⟨_, rfl⟩
  obtain ⟨W, hW⟩ : ∃ W, W0.alloc (.cells #[.bool false] 4) = W := ⟨_, rfl⟩
  have hs0 : W0.heap.size = w.heap.size + 1 := by rw [← hW0]; simp
  have hs2 : W.heap.size = w.heap.size + 2 := by rw [← hW]; simp; omega
  have hb01 : Below W0.heap.size W0 W := by rw [← hW]; exact (Below.refl _ _).alloc (Nat.le_refl _) _
  have hbW : Below w.heap.size w W := by rw [← hW, ← hW0]; exact ((Below.refl _ w).alloc (Nat.le_refl _) _).alloc (by simp) _
  have hbl : W.heap[w.heap.size]? = some (.cells (limC (a, b, c, d, e, f)) 23 (0, 0)) := by
    rw [hb01.block _ (by omega), ← hW0]; exact new_cellsN w _ _
  have hBR : Boxed W W0.heap.size 4 (.bool false) := by
    have h := Boxed.new W0 4 (.bool false)
    rw [hW] at h
    exact h
  have LC := Lib.hid (fun (V : World) (hV : Below W.heap.size W V) => lim_cells ((hV.block _ (by omega)).trans hbl))
  have HBW := Lib.hid hbW
  have HS2 := Lib.hid (show W0.heap.size = w.heap.size + 1 ∧ W.heap.size = w.heap.size + 2 from ⟨hs0, hs2⟩)
  have q25 : ∀ (w : World) (a : Addr), (binOp .eql 26 (.pointer (some a)) (.pointer none)).run Try.prog w = .ok (.bool false) w := fun w a => by kernel_rfl
  have q26 : ∀ (w : World), (binOp .eql 26 (.pointer none) (.pointer none)).run Try.prog w = .ok (.bool true) w := fun w => by kernel_rfl
  have HBR := Lib.hid hBR
  have HR := Lib.hid hr
  obtain ⟨n, hn⟩ : ∃ n, ps.length = n := ⟨_, rfl⟩
  have HN := Lib.hid hn
  rw [hn] at hcA ⊢
  clear hn hr hbl hbW hb01 hBR hs0 hs2
  refine (callsIn_wide (n := 8)).1 ?_
  refine callsIn_of_wp_marks Try.func3 rfl trivial (wpIn_wide.2 ?_) rfl
  simp only [Try.ntmps3, List.size_toArray, List.length_cons, List.length_nil, Nat.reduceAdd, Nat.reduceSub, Array.replicate_succ, Array.replicate_zero, List.push_toArray, List.append_toArray, List.nil_append, List.cons_append]
  go_upto_region 3 with (go_at_call 7; refine (awake_calls _).mono ?_; rintro en w1 ⟨rfl, hb1⟩; have HB1 := Lib.hid hb1; clear hb1)
  clear hW0 hW
  obtain ⟨c0, c1, c2, c3, c4, c5⟩ := LC.out w1 HB1.out
  (try dsimp only at c0 c1 c2 c3 c4 c5)
  cases hm : mayL (a, b, c, d, e, f) with
  | false =>
    have KN := Lib.hid (new_bad w1 a b c d e f hm)
    clear hm
    go_wp2_with (go_at_call 8; refine KN.out.mono ?_; rintro en w2 ⟨rfl, hg2⟩; have HB2 := Lib.hid (HB1.out.trans (⟨hg2.os, hg2.tape, hg2.output, hg2.size, fun i hi => hg2.block i (Nat.lt_of_lt_of_le hi HB1.out.size) (by simp)⟩ : Below W.heap.size w1 w2)); have BR2 : Boxed w2 W0.heap.size 4 (.bool false) := (HB2.out.block _ (by have := HS2.out; omega)).trans HBR.out; have c6 := BR2.cell; have f6 := BR2.frozen; clear hg2)
    have c6' := (BR2.set (.bool true)).cell
    refine ⟨.bool true, ?_, rfl, HBW.out.trans ((HB2.out.mono (by have := HS2.out; omega)).setCell (p := ⟨W0.heap.size, 0, none⟩) (by show w.heap.size ≤ W0.heap.size; have := HS2.out; omega) _)⟩
    simp [results, Try.f3, go_sem, c6']
  | true =>
    have HM := Lib.hid hm
    have KN := Lib.hid (new_calls w1 a b c d e f hm)
    clear hm
    go_upto_region 6 with (go_at_call 8; refine KN.out.mono ?_; rintro en w3 ⟨g, bm, rfl, hT3, hg3, hbm3, hgr3⟩; have HB3 := Lib.hid (HB1.out.trans (⟨hgr3.os, hgr3.tape, hgr3.output, hgr3.size, fun i hi => hgr3.block i (Nat.lt_of_lt_of_le hi HB1.out.size) (by simp)⟩ : Below W.heap.size w1 w3)); have HG := Lib.hid (show W.heap.size ≤ g ∧ W.heap.size ≤ bm by have := HB1.out.size; omega); have HT3 := Lib.hid hT3; clear hT3 hg3 hbm3 hgr3)
    clear c0 c1 c2 c3 c4 c5
    go_upto_region 7 with fail
    obtain ⟨W4, hW4⟩ : ∃ X, w3.alloc (.cells #[.int .i64 0] 3) = X := ⟨_, rfl⟩
    have hb4 : Below w3.heap.size w3 W4 := by rw [← hW4]; exact (Below.refl _ _).alloc (Nat.le_refl _) _
    have hs4 : W4.heap.size = w3.heap.size + 1 := by rw [← hW4]; simp
    have hB7 : Boxed W4 w3.heap.size 3 (.int .i64 0) := by rw [← hW4]; exact Boxed.new w3 _ _
    have HT4 := Lib.hid (tab_kept HT3.out hb4)
    have HB4 := Lib.hid (HB3.out.trans (hb4.mono HB3.out.size))
    have HNE := Lib.hid (show g < w3.heap.size ∧ bm < w3.heap.size ∧ W.heap.size ≤ w3.heap.size ∧ W4.heap.size = w3.heap.size + 1 from ⟨HT3.out.lt.1, HT3.out.lt.2, HB3.out.size, hs4⟩)
    have HB7 := Lib.hid hB7
    rw [hW4]
    clear hW4 hb4 hs4 hB7
    go_wp2
    obtain ⟨O, hO⟩ : ∃ O : Nat → Prop, O = fun b => b = g ∨ b = bm ∨ b = w3.heap.size := ⟨_, rfl⟩
    have HO1 := Lib.hid (show O g ∧ O bm ∧ O w3.heap.size by rw [hO]; exact ⟨.inl rfl, .inr (.inl rfl), .inr (.inr rfl)⟩)
    have HON := Lib.hid (show ∀ b, b ≠ g → b ≠ bm → b ≠ w3.heap.size → ¬ O b by rw [hO]; exact fun b h1 h2 h3 h => h.elim h1 (fun h => h.elim h2 h3))
    clear hO
    obtain ⟨I, hI⟩ : ∃ I : Act → World → Prop, I = fun a' wr => ∃ (Ds : List Nat) (u8 u9 u10 u11 u12 u13 u14 u15 u16 u17 u29 u30 u31 u32 u33 u34 u35 u36 u37 u38 u39 u40 u41 u42 u43 u44 u45 u46 u47 u48 u49 u50 u51 u52 u53 u54 u55 u56 u57 u58 u59 u60 u61 u62 u63 u64 u65 u66 u67 u68 u69 u70 u71 u72 u73 u74 u75 u76 u77 u78 u79 u80 u81 u82 u83 u84 u85 u86 u87 u88 u89 u90 u91 u92 u93 u94 u95 u96 u97 u98 u99 u100 u101 u102 u103 u104 u105 u106 u107 u108 u109 u110 u111 u112 u113 u114 u115 u116 u117 u118 u119 u120 u121 u122 u123 u124 u125 u126 u127 u128 u129 u130 u131 u132 u133 u134 u135 u136 u137 u138 u139 u140 u141 u142 u143 u144 u145 u146 u147 u148 u149 u150 u151 u152 u153 u154 u155 u156 u157 u158 u159 u160 u161 : Value), (∃ (i : Nat) (L : List HeldP) (n' : Nat) (tn now : Int), u8 = .int .i64 i ∧ i ≤ n ∧ i ≤ 100 ∧ n' ≤ i ∧ 0 ≤ now ∧ now ≤ 1000 * i ∧ tn ≤ now ∧ Hid (TabAt wr g bm n' (a, b, c, d, e, f) L tn) ∧ Hid (KInv (a, b, c, d, e, f) L) ∧ Hid (Boxed wr w3.heap.size 3 (.int .i64 now)) ∧ Hid (OffT O W4 wr) ∧ Hid (Below W.heap.size W wr) ∧ Hid (MarksOk O W.heap.size Ds wr)) ∧ a' = { tmps := #[Value.agg #[Value.int .i64 a, Value.int .i64 b, Value.int .i64 c, Value.int .i64 d, Value.int .i64 e, Value.int .i64 f], Value.slice A n cA, Value.pointer (some ⟨w.heap.size, 0, none⟩), undef, Value.pointer (some ⟨W0.heap.size, 0, none⟩), Value.pointer (some ⟨g, 0, none⟩), Value.int .i64 0, Value.pointer (some ⟨w3.heap.size, 0, none⟩), u8, u9, u10, u11, u12, u13, u14, u15, u16, u17, Value.bool true, Value.bool false, Value.tuple #[Value.pointer (some ⟨g, 0, none⟩), Value.int .i64 0], Value.agg #[Value.int .i64 a, Value.int .i64 b, Value.int .i64 c, Value.int .i64 d, Value.int .i64 e, Value.int .i64 f], Value.tuple #[Value.pointer (some ⟨g, 0, none⟩), Value.int .i64 0], Value.pointer (some ⟨g, 0, none⟩), Value.int .i64 0, Value.pointer (some ⟨g, 0, none⟩), Value.bool false, undef, undef, u29, u30, u31, u32, u33, u34, u35, u36, u37, u38, u39, u40, u41, u42, u43, u44, u45, u46, u47, u48, u49, u50, u51, u52, u53, u54, u55, u56, u57, u58, u59, u60, u61, u62, u63, u64, u65, u66, u67, u68, u69, u70, u71, u72, u73, u74, u75, u76, u77, u78, u79, u80, u81, u82, u83, u84, u85, u86, u87, u88, u89, u90, u91, u92, u93, u94, u95, u96, u97, u98, u99, u100, u101, u102, u103, u104, u105, u106, u107, u108, u109, u110, u111, u112, u113, u114, u115, u116, u117, u118, u119, u120, u121, u122, u123, u124, u125, u126, u127, u128, u129, u130, u131, u132, u133, u134, u135, u136, u137, u138, u139, u140, u141, u142, u143, u144, u145, u146, u147, u148, u149, u150, u151, u152, u153, u154, u155, u156, u157, u158, u159, u160, u161], defers := markL Ds } := ⟨_, rfl⟩
    have HI := Lib.hid hI
    refine wp_loop_k I (fun a' _ => 100 - (intOf (a'.tmps.getD 8 undef)).toNat) ?_ ?_
    · rw [hI]
      refine ⟨[], ?_⟩
      (repeat apply Exists.intro)
      exact ⟨⟨0, [], 0, 0, 0, rfl, Nat.zero_le _, by omega, Nat.le_refl _, by omega, by omega, by omega, HT4, Lib.hid (kinv_nil HM.out), HB7, Lib.hid (OffT.refl _ _), HB4, Lib.hid ⟨List.nodup_nil, fun D hD => (List.not_mem_nil hD).elim⟩⟩, rfl⟩
    intro a0 wr hinv K hK
    rw [hI] at hinv
    obtain ⟨Ds, hinv⟩ := hinv
    obtain ⟨u8, hinv⟩ := hinv
    obtain ⟨u9, hinv⟩ := hinv
    obtain ⟨u10, hinv⟩ := hinv
    obtain ⟨u11, hinv⟩ := hinv
    obtain ⟨u12, hinv⟩ := hinv
    obtain ⟨u13, hinv⟩ := hinv
    obtain ⟨u14, hinv⟩ := hinv
    obtain ⟨u15, hinv⟩ := hinv
    obtain ⟨u16, hinv⟩ := hinv
    obtain ⟨u17, hinv⟩ := hinv
    obtain ⟨u29, hinv⟩ := hinv
    obtain ⟨u30, hinv⟩ := hinv
    obtain ⟨u31, hinv⟩ := hinv
    obtain ⟨u32, hinv⟩ := hinv
    obtain ⟨u33, hinv⟩ := hinv
    obtain ⟨u34, hinv⟩ := hinv
    obtain ⟨u35, hinv⟩ := hinv
    obtain ⟨u36, hinv⟩ := hinv
    obtain ⟨u37, hinv⟩ := hinv
    obtain ⟨u38, hinv⟩ := hinv
    obtain ⟨u39, hinv⟩ := hinv
    obtain ⟨u40, hinv⟩ := hinv
    obtain ⟨u41, hinv⟩ := hinv
    obtain ⟨u42, hinv⟩ := hinv
    obtain ⟨u43, hinv⟩ := hinv
    obtain ⟨u44, hinv⟩ := hinv
    obtain ⟨u45, hinv⟩ := hinv
    obtain ⟨u46, hinv⟩ := hinv
    obtain ⟨u47, hinv⟩ := hinv
    obtain ⟨u48, hinv⟩ := hinv
    obtain ⟨u49, hinv⟩ := hinv
    obtain ⟨u50, hinv⟩ := hinv
    obtain ⟨u51, hinv⟩ := hinv
    obtain ⟨u52, hinv⟩ := hinv
    obtain ⟨u53, hinv⟩ := hinv
    obtain ⟨u54, hinv⟩ := hinv
    obtain ⟨u55, hinv⟩ := hinv
    obtain ⟨u56, hinv⟩ := hinv
    obtain ⟨u57, hinv⟩ := hinv
    obtain ⟨u58, hinv⟩ := hinv
    obtain ⟨u59, hinv⟩ := hinv
    obtain ⟨u60, hinv⟩ := hinv
    obtain ⟨u61, hinv⟩ := hinv
    obtain ⟨u62, hinv⟩ := hinv
    obtain ⟨u63, hinv⟩ := hinv
    obtain ⟨u64, hinv⟩ := hinv
    obtain ⟨u65, hinv⟩ := hinv
    obtain ⟨u66, hinv⟩ := hinv
    obtain ⟨u67, hinv⟩ := hinv
    obtain ⟨u68, hinv⟩ := hinv
    obtain ⟨u69, hinv⟩ := hinv
    obtain ⟨u70, hinv⟩ := hinv
    obtain ⟨u71, hinv⟩ := hinv
    obtain ⟨u72, hinv⟩ := hinv
    obtain ⟨u73, hinv⟩ := hinv
    obtain ⟨u74, hinv⟩ := hinv
    obtain ⟨u75, hinv⟩ := hinv
    obtain ⟨u76, hinv⟩ := hinv
    obtain ⟨u77, hinv⟩ := hinv
    obtain ⟨u78, hinv⟩ := hinv
    obtain ⟨u79, hinv⟩ := hinv
    obtain ⟨u80, hinv⟩ := hinv
    obtain ⟨u81, hinv⟩ := hinv
    obtain ⟨u82, hinv⟩ := hinv
    obtain ⟨u83, hinv⟩ := hinv
    obtain ⟨u84, hinv⟩ := hinv
    obtain ⟨u85, hinv⟩ := hinv
    obtain ⟨u86, hinv⟩ := hinv
    obtain ⟨u87, hinv⟩ := hinv
    obtain ⟨u88, hinv⟩ := hinv
    obtain ⟨u89, hinv⟩ := hinv
    obtain ⟨u90, hinv⟩ := hinv
    obtain ⟨u91, hinv⟩ := hinv
    obtain ⟨u92, hinv⟩ := hinv
    obtain ⟨u93, hinv⟩ := hinv
    obtain ⟨u94, hinv⟩ := hinv
    obtain ⟨u95, hinv⟩ := hinv
    obtain ⟨u96, hinv⟩ := hinv
    obtain ⟨u97, hinv⟩ := hinv
    obtain ⟨u98, hinv⟩ := hinv
    obtain ⟨u99, hinv⟩ := hinv
    obtain ⟨u100, hinv⟩ := hinv
    obtain ⟨u101, hinv⟩ := hinv
    obtain ⟨u102, hinv⟩ := hinv
    obtain ⟨u103, hinv⟩ := hinv
    obtain ⟨u104, hinv⟩ := hinv
    obtain ⟨u105, hinv⟩ := hinv
    obtain ⟨u106, hinv⟩ := hinv
    obtain ⟨u107, hinv⟩ := hinv
    obtain ⟨u108, hinv⟩ := hinv
    obtain ⟨u109, hinv⟩ := hinv
    obtain ⟨u110, hinv⟩ := hinv
    obtain ⟨u111, hinv⟩ := hinv
    obtain ⟨u112, hinv⟩ := hinv
    obtain ⟨u113, hinv⟩ := hinv
    obtain ⟨u114, hinv⟩ := hinv
    obtain ⟨u115, hinv⟩ := hinv
    obtain ⟨u116, hinv⟩ := hinv
    obtain ⟨u117, hinv⟩ := hinv
    obtain ⟨u118, hinv⟩ := hinv
    obtain ⟨u119, hinv⟩ := hinv
    obtain ⟨u120, hinv⟩ := hinv
    obtain ⟨u121, hinv⟩ := hinv
    obtain ⟨u122, hinv⟩ := hinv
    obtain ⟨u123, hinv⟩ := hinv
    obtain ⟨u124, hinv⟩ := hinv
    obtain ⟨u125, hinv⟩ := hinv
    obtain ⟨u126, hinv⟩ := hinv
    obtain ⟨u127, hinv⟩ := hinv
    obtain ⟨u128, hinv⟩ := hinv
    obtain ⟨u129, hinv⟩ := hinv
    obtain ⟨u130, hinv⟩ := hinv
    obtain ⟨u131, hinv⟩ := hinv
    obtain ⟨u132, hinv⟩ := hinv
    obtain ⟨u133, hinv⟩ := hinv
    obtain ⟨u134, hinv⟩ := hinv
    obtain ⟨u135, hinv⟩ := hinv
    obtain ⟨u136, hinv⟩ := hinv
    obtain ⟨u137, hinv⟩ := hinv
    obtain ⟨u138, hinv⟩ := hinv
    obtain ⟨u139, hinv⟩ := hinv
    obtain ⟨u140, hinv⟩ := hinv
    obtain ⟨u141, hinv⟩ := hinv
    obtain ⟨u142, hinv⟩ := hinv
    obtain ⟨u143, hinv⟩ := hinv
    obtain ⟨u144, hinv⟩ := hinv
    obtain ⟨u145, hinv⟩ := hinv
    obtain ⟨u146, hinv⟩ := hinv
    obtain ⟨u147, hinv⟩ := hinv
    obtain ⟨u148, hinv⟩ := hinv
    obtain ⟨u149, hinv⟩ := hinv
    obtain ⟨u150, hinv⟩ := hinv
    obtain ⟨u151, hinv⟩ := hinv
    obtain ⟨u152, hinv⟩ := hinv
    obtain ⟨u153, hinv⟩ := hinv
    obtain ⟨u154, hinv⟩ := hinv
    obtain ⟨u155, hinv⟩ := hinv
    obtain ⟨u156, hinv⟩ := hinv
    obtain ⟨u157, hinv⟩ := hinv
    obtain ⟨u158, hinv⟩ := hinv
    obtain ⟨u159, hinv⟩ := hinv
    obtain ⟨u160, hinv⟩ := hinv
    obtain ⟨u161, hinv⟩ := hinv
    obtain ⟨⟨i, L, n', tn, now, rfl, hin, hi100, hni, hnow0, hnow1, htn, HTr, HK, HB7r, HOr, HBr, HMk⟩, ha⟩ := hinv
    subst ha
    have hK2 : ∀ a' w', (I a' w' ∧ 100 - (intOf (a'.tmps.getD 8 undef)).toNat < 100 - i) → K a' w' := fun a' w' h => hK a' w' (by simpa [intOf] using h)
    clear hK
    clear hI
    obtain ⟨c0, c1, c2, c3, c4, c5⟩ := LC.out wr HBr.out
    (try dsimp only at c0 c1 c2 c3 c4 c5)
    have hne := HNE.out
    by_cases hlt : i < n
    · have b1 : decide ((i : Int) < (n : Int)) = true := decide_eq_true (by omega)
      by_cases h100 : i < 100
      · have b2 : decide ((i : Int) < 100) = true := decide_eq_true (by omega)
        have hltI : (i : Int) < (n : Int) := by omega
        obtain ⟨ad, rfl, x0, x1, x2, x3⟩ := HR.out wr (HBW.out.trans (HBr.out.mono (by have := HS2.out; omega))) i (by rw [HN.out]; exact hlt)
        obtain ⟨⟨kd, wt, pr, hs⟩, hx⟩ : ∃ x, ps[i]'(by rw [HN.out]; exact hlt) = x := ⟨_, rfl⟩
        rw [hx] at x0 x1 x2 x3
        dsimp only at x0 x1 x2 x3
        clear hx
        go_upto_region 11 with fail
        obtain ⟨W5, hW5⟩ : ∃ X, wr.alloc (.cells #[.int .i64 kd, .int .i64 wt, .int .i64 pr, .int .u32 hs] 32) = X := ⟨_, rfl⟩
        have hb5 : Below wr.heap.size wr W5 := by rw [← hW5]; exact (Below.refl _ _).alloc (Nat.le_refl _) _
        have hs5 : W5.heap.size = wr.heap.size + 1 := by rw [← hW5]; simp
        have hd5 : W5.heap[wr.heap.size]? = some (.cells (doC (kd, wt, pr, hs)) 32 (0, 0)) := by rw [← hW5]; exact new_cellsN wr _ _
        have hTrl := HTr.out.lt
        have hB7l := HB7r.out.lt
        have hWr := HBr.out.size
        have b7 : Boxed W5 w3.heap.size 3 (.int .i64 now) := (hb5.block _ hB7l).trans HB7r.out
        have HT5 := Lib.hid (tab_kept HTr.out hb5)
        have HO5 := Lib.hid (HOr.out.trans (OffT.below hb5))
        have HBlk := Lib.hid (show ∀ b, b < wr.heap.size → W5.heap[b]? = wr.heap[b]? from hb5.block)
        have HB5 := Lib.hid (HBr.out.trans (hb5.mono hWr))
        have HM5 := Lib.hid (HMk.out.step (OffT.below hb5))
        have HD5 := Lib.hid hd5
        have HS5 := Lib.hid (show W5.heap.size = wr.heap.size + 1 ∧ w3.heap.size < wr.heap.size ∧ g < wr.heap.size ∧ bm < wr.heap.size ∧ W.heap.size ≤ wr.heap.size ∧ g < w3.heap.size ∧ bm < w3.heap.size ∧ W.heap.size ≤ w3.heap.size from ⟨hs5, hB7l, hTrl.1, hTrl.2, hWr, hne.1, hne.2.1, hne.2.2.1⟩)
        have HR5 := Lib.hid b7
        have HIB := Lib.hid (show i < n ∧ i < 100 ∧ n' ≤ i ∧ 0 ≤ now ∧ now ≤ 1000 * i ∧ tn ≤ now from ⟨hlt, h100, hni, hnow0, hnow1, htn⟩)
        obtain ⟨d0, d1, d2, d3⟩ := do_cells hd5
        have c7 := b7.cell
        have f7 := b7.frozen
        rw [hW5]
        clear hW5 hb5 hs5 hd5 hTrl hB7l hWr b7 c0 c1 c2 c3 c4 c5 x0 x1 x2 x3 b1 b2 hltI hne hlt h100 hni hnow0 hnow1 htn hin hi100
        dsimp only at d0 d1 d2 d3
        obtain ⟨B, hB⟩ : ∃ B, (decide (wt > 0) && decide (wt < 1000)) = B := ⟨_, rfl⟩
        have HBd := Lib.hid hB
        clear hB
        go_cut [50] from 43 to 50 (fun s50 wx => s50 = .bool B ∧ wx = W5)
        case first =>
          by_cases hw1 : wt > 0
          · have g1 : decide (wt > 0) = true := decide_eq_true hw1
            by_cases hw2 : wt < 1000
            · have g2 : decide (wt < 1000) = true := decide_eq_true hw2
              clear hw1 hw2
              go_wp2_with fail
              go_meet
              case rel => exact ⟨by rw [← HBd.out, g1, g2]; rfl, rfl⟩
            · have g2 : decide (wt < 1000) = false := decide_eq_false hw2
              clear hw1 hw2
              go_wp2_with fail
              go_meet
              case rel => exact ⟨by rw [← HBd.out, g1, g2]; rfl, rfl⟩
          · have g1 : decide (wt > 0) = false := decide_eq_false hw1
            clear hw1
            go_wp2_with fail
            go_meet
            case rel => exact ⟨by rw [← HBd.out, g1]; rfl, rfl⟩
        case rest =>
        obtain ⟨rfl, hwc⟩ := hcut
        have hwc := hwc.symm
        subst hwc
        go_upto_if 50 with (fail)
        go_cut [] from 51 to 54 (fun wx => ∃ now2 : Int, now ≤ now2 ∧ now2 ≤ now + 1000 ∧ Hid (Boxed wx w3.heap.size 3 (.int .i64 now2)) ∧ Hid (TabAt wx g bm n' (a, b, c, d, e, f) L tn) ∧ Hid (OffT O W5 wx) ∧ Hid (Below W.heap.size W wx))
        case first =>
          cases B with
          | true =>
            have hib := HIB.out
            have hs5 := HS5.out
            have hw := HBd.out
            simp only [Bool.and_eq_true, decide_eq_true_eq] at hw
            have g3 : wrap64 (now + wt) = now + wt := IntWalk.wrap64_in _ (by omega)
            have HW := Lib.hid hw
            clear hw hib hs5
            go_wp2_with fail
            go_meet
            case rel => exact ⟨now + wt, by have := HW.out; omega, by have := HW.out; omega, Lib.hid (HR5.out.set _), Lib.hid (tab_set HT5.out _ (by show g ≠ w3.heap.size; have := HS5.out; omega) (by show bm ≠ w3.heap.size; have := HS5.out; omega)), Lib.hid (OffT.set _ (p := ⟨w3.heap.size, 0, none⟩) HO1.out.2.2 _), Lib.hid (HB5.out.setCell (p := ⟨w3.heap.size, 0, none⟩) (by show W.heap.size ≤ w3.heap.size; have := HS5.out; omega) _)⟩
          | false =>
            go_wp2_with fail
            go_meet
            case rel => exact ⟨now, by omega, by omega, HR5, HT5, Lib.hid (OffT.refl _ _), HB5⟩
        case rest =>
          obtain ⟨now2, hn1, hn2, HRx, HTx, HOx, HBx⟩ := hcut
          obtain ⟨Wx, rfl⟩ : ∃ X, X = wc := ⟨_, rfl⟩
          have hib := HIB.out
          have hs5 := HS5.out
          have hxs := HOx.out.1
          clear d0 d1 d2 d3 c7 f7
          have hdx : Wx.heap[wr.heap.size]? = some (.cells (doC (kd, wt, pr, hs)) 32 (0, 0)) := (HOx.out.2 _ (by omega) (HON.out _ (by omega) (by omega) (by omega))).trans HD5.out
          have HDx := Lib.hid hdx
          have HOxx := Lib.hid (HO5.out.trans HOx.out)
          have HMx := Lib.hid (HM5.out.step HOx.out)
          have HXS := Lib.hid (show wr.heap.size + 1 ≤ Wx.heap.size by omega)
          have HNW := Lib.hid (show now2 < 1099511627776 ∧ 0 ≤ now2 ∧ now2 ≤ 1000 * (i + 1) ∧ tn ≤ now2 ∧ n' ≤ 100 by omega)
          have HOr6 := Lib.hid (show OffT O wr Wx from (OffT.trans ⟨by omega, fun b hb _ => HBlk.out b hb⟩ HOx.out))
          clear hdx
          go_upto_region 14 with fail
          obtain ⟨W6, hW6⟩ : ∃ X, Wx.alloc (.cells #[.slice none 0 0] 33) = X := ⟨_, rfl⟩
          have hb6 : Below Wx.heap.size Wx W6 := by rw [← hW6]; exact (Below.refl _ _).alloc (Nat.le_refl _) _
          have hs6 : W6.heap.size = Wx.heap.size + 1 := by rw [← hW6]; simp
          have hB10 : Boxed W6 Wx.heap.size 33 (.slice none 0 0) := by rw [← hW6]; exact Boxed.new Wx _ _
          have hT6 := tab_kept HTx.out hb6
          have b7 : Boxed W6 w3.heap.size 3 (.int .i64 now2) := (hb6.block _ HRx.out.lt).trans HRx.out
          have hbd6 := HNW.out
          have KA := all_calls W6 g bm n' (a, b, c, d, e, f) L tn now2 hT6 HK.out.1 (by have := HK.out.2.1; have := (mayL_iff _).1 HM.out; omega)
          rw [onT_ok hbd6.2.2.2.1 (by omega)] at KA
          obtain ⟨L1, hL1⟩ : ∃ X, overL L now2 = X := ⟨_, rfl⟩
          have HK1 := Lib.hid (show KInv (a, b, c, d, e, f) L1 by rw [← hL1]; exact kinv_over HK.out now2)
          have HL1 := Lib.hid (show ∀ x ∈ L1, now2 < x.2.2 by rw [← hL1]; exact over_mem)
          rw [hL1] at KA
          have KAH := Lib.hid KA
          have HB10 := Lib.hid hB10
          have HB7x := Lib.hid b7
          have HB6 := Lib.hid (HBx.out.trans (hb6.mono HBx.out.size))
          have HS6 := Lib.hid hs6
          have HOr7 := Lib.hid (HOr6.out.trans (OffT.below hb6))
          have HO6 := Lib.hid (HOxx.out.trans (OffT.below hb6))
          have HM6 := Lib.hid (HMx.out.step (OffT.below hb6))
          have HD6 := Lib.hid ((hb6.block _ (by omega)).trans HDx.out)
          have HT6 := Lib.hid hT6
          have c7 := b7.cell
          rw [hW6]
          clear hW6 hb6 hs6 hB10 hT6 b7 KA hL1 hbd6 hib hs5 hxs hn1 hn2
          go_wp2_with (go_at_call 9; refine KAH.out.mono ?_; rintro en w7 ⟨p1, p2, b2, rfl, hA7, hT7, ht7⟩)
          obtain ⟨A7, m7, cc7, a1, hm7, hrow7, a2, hown7, hp1, hp2, hb2⟩ := hA7
          subst hm7
          have hs5 := HS5.out
          have hs6 := HS6.out
          have hxs := HXS.out
          have hTs := ht7.2.2.2.1
          have hT6l := HT6.out.lt
          have hHG := HG.out
          have hp1l : p1 < w7.heap.size := World.block_lt_of_cell? _ _ a1
          have hp2l : p2 < w7.heap.size := World.block_lt_of_cell? _ _ a2
          have hb2l := hown7.lt
          have b10 : Boxed w7 Wx.heap.size 33 (.slice none 0 0) := (ht7.2.2.2.2 _ (by omega) (by omega) (by omega)).trans HB10.out
          have hB7 : Below W.heap.size W w7 := Touch.below HB6.out ht7 hHG.1 hHG.2 (by omega)
          have hrc := row_cells hrow7
          have hml : L1.length ≤ 100 := by have := HK1.out.2.1; have := (mayL_iff _).1 HM.out; omega
          obtain ⟨S, hS⟩ : ∃ S : Nat → Prop, S = fun b => b < w7.heap.size ∧ b ≠ Wx.heap.size := ⟨_, rfl⟩
          have hSlt : ∀ b, S b → b < w7.heap.size := fun b hb => by rw [hS] at hb; exact hb.1
          have hSn : ¬ S Wx.heap.size := by rw [hS]; exact fun hb => hb.2 rfl
          have hSy : ∀ b, b < w7.heap.size → b ≠ Wx.heap.size → S b := fun b h1 h2 => by rw [hS]; exact ⟨h1, h2⟩
          clear hS
          have seq := all_told 7 (by omega) S p1 p2 b2 n' A7 cc7 L1 w7 (hSy p1 hp1l (by omega)) (hSy p2 hp2l (by omega)) (hSy b2 hb2l (by omega)) hSlt a1 a2 hown7 HK1.out.1 (by omega)
            (fun q hq => by have := HK1.out.2.2.2 q hq; unfold I64; omega)
            (fun V hV j hj => by
              rcases hrc with h0 | ⟨gr, hA, hgr, hgl, hX⟩
              · omega
              · exact ⟨_, hA, hX V (hV.2 gr (hSy gr hgl (by omega))) j hj⟩)
          refine (wpIn_wide (n := 8)).1 ?_
          refine range_told_box rfl (by omega) (gf := 17) (lb := #[.pointer (some ⟨p1, 0, none⟩), .pointer (some ⟨p2, 0, none⟩)]) rfl trivial (enters_of Try.func17 (by kernel_rfl) rfl)
            seq KeepS.trans (fun W l o o' hl h _ _ => KeepS.put W l o o' (fun hb => by have := hSlt l hb; omega) h) (Below.refl _ _) (fun _ => rfl) (fun _ _ _ _ _ _ _ _ h => h)
            (fun q => .cells (heldC q) 38) (fun V q hV => KeepS.below ((Below.refl _ V).alloc (Nat.le_refl _) _) (fun b hb => by have := hSlt b hb; omega)) (fun _ _ _ h => h)
            (fun pre V => KeepS S w7 V ∧ (∃ v, Boxed V Wx.heap.size 33 v ∧ V.ownsRow w7.heap.size 38 3 v pre.length (flatH pre)) ∧ Below W.heap.size W V)
            ?hI1 ?h01 ?a11 ?assign1 ?body1 ?done1
          case assign1 =>
            intro l x W B K hB hK
            dsimp only [encsH, heldC] at hK ⊢
            gi_wp2
            exact hK
          case hI1 =>
            rintro s X Y row ⟨h1, ⟨v, h3, h4⟩, h5⟩ hg hr
            exact ⟨h1.grown hSlt hg (fun r e hb => by have := (hr r e).1; have := hSlt r hb; omega), ⟨v, boxed_own2 h3 hg (fun r e => (hr r e).2), rowH_own h4 hg (fun r e => (hr r e).2)⟩, h5.grown hg h5.size (fun k e => by have := (hr k e).1; have := hB7.size; omega)⟩
          case h01 => exact ⟨KeepS.refl _ _, ⟨_, b10, rfl, .inl ⟨rfl, rfl⟩⟩, hB7⟩
          case body1 =>
            rintro lp pre x B V hB hbx ⟨hk, ⟨v, b10, hrow⟩, hbl⟩ ⟨r, hr⟩
            have hpl : pre.length < 101 := by have h := congrArg List.length hr; rw [List.length_append, List.length_cons] at h; omega
            obtain ⟨Av, cv, hv, _⟩ := rowH_cells hrow
            obtain ⟨j, hj⟩ : ∃ j, pre.length = j := ⟨_, rfl⟩
            obtain ⟨xp, xh, xu⟩ := x
            rw [hj] at hv hrow hpl
            subst hv
            obtain ⟨i0', hi0, hz0, hsz0, hby0⟩ := info_parts infoH
            have HI0 := Lib.hid hi0
            have HZ0 := Lib.hid hz0
            have HS0 := Lib.hid hsz0
            have HY0 := Lib.hid hby0
            have HROW := Lib.hid hrow
            have HJ := Lib.hid hj
            have Hk := Lib.hid hk
            have HSn := Lib.hid hSn
            have HSl := Lib.hid hSlt
            have HBL := Lib.hid hbl
            have B10 := Lib.hid b10
            have c10 := b10.cell
            have f10 := b10.frozen
            obtain ⟨f0, f1, f2⟩ := held_cells hbx
            dsimp only at f0 f1 f2
            have HNEW := Lib.hid (show (V.alloc (.cells #[.int .i64 xp, .int .u32 xh, .int .i64 xu] 38)).heap[V.heap.size]? = some (.cells #[.int .i64 xp, .int .u32 xh, .int .i64 xu] 38 (0, 0)) from new_cellsN V _ _)
            have HGV := Lib.hid (show V.grownBy (V.alloc (.cells #[.int .i64 xp, .int .u32 xh, .int .i64 xu] 38)) none from World.grownBy_alloc V _ none)
            have HNE2 := Lib.hid (show Wx.heap.size < w7.heap.size ∧ w7.heap.size ≤ V.heap.size ∧ W.heap.size ≤ Wx.heap.size from ⟨by omega, hk.1, by omega⟩)
            have hpl2 : j ≤ 100 := by omega
            clear hk hSn hSy hSlt seq hj hrc hrow7 hown7 a1 a2 ht7 hT7 b10 hB7 hp1 hp2 hb2 hp1l hp2l hb2l hHG hT6l hs5 hs6 hxs hTs hbx hbl hr hpl hB hml hrow hi0 hz0 hsz0 hby0
            gi_wp2_with (gi_at_builtin; refine wpListIn_append_own _ rfl (.tmp 59) (.tmp 61) 33 rfl w7.heap.size 38 i0' (.agg #[.int .i64 0, .int .u32 0, .int .i64 0]) 3 24 Try.underlying33 HI0.out HZ0.out HS0.out HY0.out rfl (by decide) (.slice Av j cv) j (flatH pre) rfl (HROW.out.alloc _) ⟨V.heap.size, 0, none⟩ 1 1 [.int .i64 xp, .int .u32 xh, .int .i64 xu] rfl rfl (World.news_of_block HNEW.out) (by simp [Value.oneCell']) (by unfold maxLen; omega) (by omega) (by have := HNE2.out; simp; omega) ?_; intro v' w1' hown' hgrow _; obtain ⟨A', c', hv', hown2⟩ := rowH_grow HJ.out hown'; have hgv := grown_after HGV.out hgrow; subst hv'; have e10 := (hgv.block Wx.heap.size (by have := HNE2.out; omega) (fun e => by have := (rowH_block HROW.out _ e.symm).1; have := HNE2.out; omega)).trans B10.out; have E10 : Boxed w1' Wx.heap.size 33 (.slice Av j cv) := e10; have HE10 := Lib.hid E10; have c10 := E10.cell; have f10 := E10.frozen; have HOWN := Lib.hid hown2; have HGV2 := Lib.hid hgv; clear hown' hown2 hgrow hgv e10 E10)
            have hne2 := HNE2.out
            have hkS : KeepS S V w1' := ⟨HGV2.out.size, fun b hb => HGV2.out.block b (Nat.lt_of_lt_of_le (HSl.out b hb) hne2.2.1) (fun e => by have := (rowH_block HROW.out _ e.symm).1; have := HSl.out b hb; omega)⟩
            have hkS2 := hkS.trans (KeepS.setCell (p := ⟨Wx.heap.size, 0, none⟩) HSn.out (.slice A' (j + 1) c'))
            refine ⟨((KeepsOthers.of_grownBy HGV2.out (fun k o e hk => ?_)).trans (KeepsOthers.setCell _ _ _)).from _, hkS2, Hk.out.trans hkS2, ⟨_, HE10.out.set _, (by have h := rowH_set (v' := .slice A' (j + 1) c') (p := ⟨Wx.heap.size, 0, none⟩) HOWN.out (by show Wx.heap.size < _; omega); rw [List.length_append] at h; exact h)⟩, (HBL.out.grown HGV2.out HBL.out.size (fun k e => by have := (rowH_block HROW.out k e).1; omega)).setCell (p := ⟨Wx.heap.size, 0, none⟩) (by show W.heap.size ≤ Wx.heap.size; omega) _⟩
            obtain ⟨cur, hc⟩ := (rowH_block HROW.out k e).2
            rw [hc] at hk
            injection hk with hk
            rw [← hk]
            rfl
          case done1 =>
            rintro D1 xs V hD hxs ⟨hk, ⟨v, b10, hrow⟩, hbl⟩ hK2
            have hxs : xs = L1 := hxs
            rw [hxs] at hrow
            clear hxs
            obtain ⟨Av, cv, hv, hcw⟩ := rowH_cells hrow
            subst hv
            have hbd := HNW.out
            have hlD : D1 < V.heap.size := (Array.getElem?_eq_some_iff.1 hK2).1
            have HT8 := Lib.hid (tab_keepS hT7 hk (hSy g (by omega) (by omega)) (hSy bm (by omega) (by omega)))
            have HO8 := Lib.hid (OffT.keepS (HO6.out.trans (OffT.touch ht7 HO1.out.1 HO1.out.2.1)) hk (fun b hb _ => hSy b (by have := HO6.out.1; omega) (by have := HNE.out; omega)))
            have HOr8 := Lib.hid (OffT.keepS (HOr7.out.trans (OffT.touch ht7 HO1.out.1 HO1.out.2.1)) hk (fun b hb _ => hSy b (by omega) (by omega)))
            have HM8 := Lib.hid (show MarksOk O W.heap.size (D1 :: Ds) V from MarksOk.cons (HMk.out.step HOr8.out) (by omega) (HON.out D1 (by omega) (by omega) (by omega)) hK2 (fun h => by have := HMk.out.lt D1 h; omega))
            have b7 : Boxed V w3.heap.size 3 (.int .i64 now2) := hk.boxed (hSy _ (by omega) (by omega)) ((ht7.2.2.2.2 _ (by omega) (by omega) (by omega)).trans HB7x.out)
            have hd8 : V.heap[wr.heap.size]? = some (.cells (doC (kd, wt, pr, hs)) 32 (0, 0)) := (hk.2 _ (hSy _ (by omega) (by omega))).trans ((ht7.2.2.2.2 _ (by omega) (by omega) (by omega)).trans HD6.out)
            obtain ⟨u, fc, M, hst, hkm, hMn, KR⟩ := caps_step V g bm n' (a, b, c, d, e, f) L1 now2 pr hs HT8.out HM.out HK1.out HL1.out (by omega) (by omega) (by omega)
            have HST := Lib.hid hst
            have HKM := Lib.hid hkm
            have HMN := Lib.hid hMn
            have KRh := Lib.hid KR
            have B7V := Lib.hid b7
            have HD8 := Lib.hid hd8
            have HB8 := Lib.hid hbl
            have B10V := Lib.hid b10
            have HCW := Lib.hid hcw
            have HML := Lib.hid hml
            have HS8 := Lib.hid (show g < wr.heap.size ∧ bm < wr.heap.size ∧ w3.heap.size < wr.heap.size ∧ W.heap.size ≤ wr.heap.size ∧ wr.heap.size < Wx.heap.size ∧ Wx.heap.size < w7.heap.size ∧ w7.heap.size ≤ V.heap.size ∧ g < w3.heap.size ∧ bm < w3.heap.size from ⟨by omega, by omega, by omega, by omega, by omega, by omega, hk.1, by omega, by omega⟩)
            obtain ⟨d0, d1, d2, d3⟩ := do_cells hd8
            dsimp only at d0 d1 d2 d3
            clear c7
            have c7 := b7.cell
            clear hst hkm hMn KR b7 hd8 hbl b10 hcw hml hk hK2 hSn hSy hSlt seq hrc hrow7 hown7 a1 a2 ht7 hT7 hB7 hp1 hp2 hb2 hp1l hp2l hb2l hHG hT6l hs5 hs6 hxs hTs hrow hD hlD hbd
            go_upto_region 18 with (go_at_call 10; refine KRh.out.mono ?_; rintro en w9 ⟨n5, hn5, rfl, hT9, ht9⟩; have HT9 := Lib.hid hT9; have Ht9 := Lib.hid ht9; clear hT9 ht9)
            clear c7 d0 d1 d2 d3
            go_upto_region 21 with fail
            obtain ⟨Ye, hYe⟩ : ∃ X, ((((w9.alloc (.cells #[.int .i64 u] 3)).alloc (.cells #[.int .i64 fc] 27)).alloc (.cells #[.int .i64 0] 3)).alloc (.cells #[.int .i64 0] 3)).alloc (.cells #[.bool true] 4) = X := ⟨_, rfl⟩
            have hbY : Below w9.heap.size w9 Ye := by rw [← hYe]; exact (((((Below.refl _ w9).alloc (Nat.le_refl _) _).alloc (by simp) _).alloc (by simp; omega) _).alloc (by simp; omega) _).alloc (by simp; omega) _
            have hsY : Ye.heap.size = w9.heap.size + 5 := by rw [← hYe]; simp
            have b12 : Boxed Ye w9.heap.size 3 (.int .i64 u) := by rw [← hYe]; exact ((((Boxed.new w9 3 _).alloc _).alloc _).alloc _).alloc _
            have b13 : Boxed Ye (w9.heap.size + 1) 27 (.int .i64 fc) := by
              have h := (((Boxed.new (w9.alloc (.cells #[.int .i64 u] 3)) 27 (.int .i64 fc)).alloc (.cells #[.int .i64 0] 3)).alloc (.cells #[.int .i64 0] 3)).alloc (.cells #[.bool true] 4)
              rw [hYe, World.size_alloc] at h; exact h
            have b14 : Boxed Ye (w9.heap.size + 1 + 1) 3 (.int .i64 0) := by
              have h := ((Boxed.new ((w9.alloc (.cells #[.int .i64 u] 3)).alloc (.cells #[.int .i64 fc] 27)) 3 (.int .i64 0)).alloc (.cells #[.int .i64 0] 3)).alloc (.cells #[.bool true] 4)
              rw [hYe, World.size_alloc, World.size_alloc] at h; exact h
            have b15 : Boxed Ye (w9.heap.size + 1 + 1 + 1) 3 (.int .i64 0) := by
              have h := (Boxed.new (((w9.alloc (.cells #[.int .i64 u] 3)).alloc (.cells #[.int .i64 fc] 27)).alloc (.cells #[.int .i64 0] 3)) 3 (.int .i64 0)).alloc (.cells #[.bool true] 4)
              rw [hYe, World.size_alloc, World.size_alloc, World.size_alloc] at h; exact h
            have b16 : Boxed Ye (w9.heap.size + 1 + 1 + 1 + 1) 4 (.bool true) := by
              have h := Boxed.new ((((w9.alloc (.cells #[.int .i64 u] 3)).alloc (.cells #[.int .i64 fc] 27)).alloc (.cells #[.int .i64 0] 3)).alloc (.cells #[.int .i64 0] 3)) 4 (.bool true)
              rw [hYe, World.size_alloc, World.size_alloc, World.size_alloc, World.size_alloc] at h; exact h
            rw [hYe]
            clear hYe
            obtain ⟨q12, hq12⟩ : ∃ q, w9.heap.size = q := ⟨_, rfl⟩
            obtain ⟨q13, hq13⟩ : ∃ q, q12 + 1 = q := ⟨_, rfl⟩
            obtain ⟨q14, hq14⟩ : ∃ q, q13 + 1 = q := ⟨_, rfl⟩
            obtain ⟨q15, hq15⟩ : ∃ q, q14 + 1 = q := ⟨_, rfl⟩
            obtain ⟨q16, hq16⟩ : ∃ q, q15 + 1 = q := ⟨_, rfl⟩
            rw [hq12, hq13, hq14, hq15, hq16] at b16
            rw [hq12, hq13, hq14, hq15] at b15
            rw [hq12, hq13, hq14] at b14
            rw [hq12, hq13] at b13
            rw [hq12] at b12
            have hs8 := HS8.out
            have ht9s := Ht9.out.2.2.2.1
            have b7 : Boxed Ye w3.heap.size 3 (.int .i64 now2) := (hbY.block _ (by omega)).trans ((Ht9.out.2.2.2.2 _ (by omega) (by omega) (by omega)).trans B7V.out)
            have b10 : Boxed Ye Wx.heap.size 33 (.slice Av L1.length cv) := (hbY.block _ (by omega)).trans ((Ht9.out.2.2.2.2 _ (by omega) (by omega) (by omega)).trans B10V.out)
            have hdY : Ye.heap[wr.heap.size]? = some (.cells (doC (kd, wt, pr, hs)) 32 (0, 0)) := (hbY.block _ (by omega)).trans ((Ht9.out.2.2.2.2 _ (by omega) (by omega) (by omega)).trans HD8.out)
            have hcY : L1.length = 0 ∨ ∃ gr, Av = some ⟨gr, 0, none⟩ ∧ w7.heap.size ≤ gr ∧ gr < q12 ∧ L1.length ≤ cv ∧ ∀ X : World, X.heap[gr]? = Ye.heap[gr]? → ∀ i (hi : i < L1.length), X.cell? ⟨gr, i * 3, none⟩ = some (.int .i64 L1[i].1) ∧ X.cell? ⟨gr, i * 3 + 1, none⟩ = some (.int .u32 L1[i].2.1) ∧ X.cell? ⟨gr, i * 3 + 2, none⟩ = some (.int .i64 L1[i].2.2) := by
              rcases HCW.out with h | ⟨gr, h1, h2, h3, h4, h5⟩
              · exact .inl h
              · exact .inr ⟨gr, h1, h2, by omega, h4, fun X hX => h5 X (hX.trans ((hbY.block _ (by omega)).trans (Ht9.out.2.2.2.2 _ (by omega) (by omega) (by omega))))⟩
            have hTY := tab_kept HT9.out hbY
            have HOY := Lib.hid ((HO8.out.trans (OffT.touch Ht9.out HO1.out.1 HO1.out.2.1)).trans (OffT.below hbY))
            have HOV := Lib.hid (show OffT O V Ye from (OffT.touch Ht9.out HO1.out.1 HO1.out.2.1).trans (OffT.below hbY))
            have HMY := Lib.hid (HM8.out.step HOV.out)
            have HBY := Lib.hid ((Touch.below HB8.out Ht9.out HG.out.1 HG.out.2 HB8.out.size).trans (hbY.mono (by omega)))
            have HQ := Lib.hid (show q12 < q13 ∧ q13 < q14 ∧ q14 < q15 ∧ q15 < q16 ∧ q16 < Ye.heap.size ∧ V.heap.size ≤ q12 by omega)
            rw [hq12, hq13, hq14, hq15, hq16]
            clear hq16 hq15 hq14 hq13 hq12 hsY hbY ht9s hs8
            have hbd := HNW.out
            have hml2 : M.length ≤ 100 := by have := HKM.out.2.1; have := (mayL_iff _).1 HM.out; omega
            have KA := all_calls Ye g bm n5 (a, b, c, d, e, f) M now2 now2 hTY HKM.out.1 (by omega)
            rw [onT_ok (Int.le_refl _) (by omega), over_none HMN.out] at KA
            have KAH2 := Lib.hid KA
            have c7 := b7.cell
            have B7Y := Lib.hid b7
            have B10Y := Lib.hid b10
            have B12Y := Lib.hid b12
            have B13Y := Lib.hid b13
            have B14Y := Lib.hid b14
            have B15Y := Lib.hid b15
            have B16Y := Lib.hid b16
            have HDY := Lib.hid hdY
            have HCY := Lib.hid hcY
            have HTY := Lib.hid hTY
            have HML2 := Lib.hid hml2
            clear b7 b10 b12 b13 b14 b15 b16 hdY hcY hTY KA hbd hml2
            go_wp2_with (go_at_call 9; refine KAH2.out.mono ?_; rintro en w11 ⟨r1, r2, rb2, rfl, hA11, hT11, ht11⟩)
            obtain ⟨A11, m11, cc11, a1, hm11, hrow11, a2, hown11, hp1, hp2, hb2⟩ := hA11
            subst hm11
            have hq := HQ.out
            have hs8 := HS8.out
            have hTs := ht11.2.2.2.1
            have hHG := HG.out
            have hml2 := HML2.out
            have hp1l : r1 < w11.heap.size := World.block_lt_of_cell? _ _ a1
            have hp2l : r2 < w11.heap.size := World.block_lt_of_cell? _ _ a2
            have hb2l := hown11.lt
            have b7 : Boxed w11 w3.heap.size 3 (.int .i64 now2) := (ht11.2.2.2.2 _ (by omega) (by omega) (by omega)).trans B7Y.out
            have b10 : Boxed w11 Wx.heap.size 33 (.slice Av L1.length cv) := (ht11.2.2.2.2 _ (by omega) (by omega) (by omega)).trans B10Y.out
            have b12 : Boxed w11 q12 3 (.int .i64 u) := (ht11.2.2.2.2 _ (by omega) (by omega) (by omega)).trans B12Y.out
            have b13 : Boxed w11 q13 27 (.int .i64 fc) := (ht11.2.2.2.2 _ (by omega) (by omega) (by omega)).trans B13Y.out
            have b14 : Boxed w11 q14 3 (.int .i64 0) := (ht11.2.2.2.2 _ (by omega) (by omega) (by omega)).trans B14Y.out
            have b15 : Boxed w11 q15 3 (.int .i64 0) := (ht11.2.2.2.2 _ (by omega) (by omega) (by omega)).trans B15Y.out
            have b16 : Boxed w11 q16 4 (.bool true) := (ht11.2.2.2.2 _ (by omega) (by omega) (by omega)).trans B16Y.out
            have hd11 : w11.heap[wr.heap.size]? = some (.cells (doC (kd, wt, pr, hs)) 32 (0, 0)) := (ht11.2.2.2.2 _ (by omega) (by omega) (by omega)).trans HDY.out
            have hB11 : Below W.heap.size W w11 := Touch.below HBY.out ht11 hHG.1 hHG.2 (by omega)
            have hrc := row_cells hrow11
            obtain ⟨S, hS⟩ : ∃ S : Nat → Prop, S = fun b => b < w11.heap.size ∧ b ≠ q14 ∧ b ≠ q15 ∧ b ≠ q16 := ⟨_, rfl⟩
            have hSlt : ∀ b, S b → b < w11.heap.size := fun b hb => by rw [hS] at hb; exact hb.1
            have hSn : ¬ S q14 ∧ ¬ S q15 ∧ ¬ S q16 := by rw [hS]; exact ⟨fun hb => hb.2.1 rfl, fun hb => hb.2.2.1 rfl, fun hb => hb.2.2.2 rfl⟩
            have hSy : ∀ b, b < w11.heap.size → b ≠ q14 → b ≠ q15 → b ≠ q16 → S b := fun b h1 h2 h3 h4 => by rw [hS]; exact ⟨h1, h2, h3, h4⟩
            clear hS
            have seq := all_told 7 (by omega) S r1 r2 rb2 n5 A11 cc11 M w11 (hSy r1 hp1l (by omega) (by omega) (by omega)) (hSy r2 hp2l (by omega) (by omega) (by omega)) (hSy rb2 hb2l (by omega) (by omega) (by omega)) hSlt a1 a2 hown11 HKM.out.1 (by omega)
              (fun q hq => by have := HKM.out.2.2.2 q hq; unfold I64; omega)
              (fun V hV j hj => by
                rcases hrc with h0 | ⟨gr, hA, hgr, hgl, hX⟩
                · omega
                · exact ⟨_, hA, hX V (hV.2 gr (hSy gr hgl (by omega) (by omega) (by omega))) j hj⟩)
            refine (wpIn_wide (n := 8)).1 ?_
            refine range_told_box rfl (by omega) (gf := 17) (lb := #[.pointer (some ⟨r1, 0, none⟩), .pointer (some ⟨r2, 0, none⟩)]) rfl trivial (enters_of Try.func17 (by kernel_rfl) rfl)
              seq KeepS.trans (fun W l o o' hl h _ _ => KeepS.put W l o o' (fun hb => by have := hSlt l hb; omega) h) (Below.refl _ _) (fun _ => rfl) (fun _ _ _ _ _ _ _ _ h => h)
              (fun q => .cells (heldC q) 38) (fun V q hV => KeepS.below ((Below.refl _ V).alloc (Nat.le_refl _) _) (fun b hb => by have := hSlt b hb; omega)) (fun _ _ _ h => h)
              (fun pre V => KeepS S w11 V ∧ Boxed V q14 3 (.int .i64 pre.length) ∧ Boxed V q15 3 (.int .i64 (cntH pre hs)) ∧ SbAt V q16 M L1 ∧ Below W.heap.size W V)
              ?hI2 ?h02 ?a12 ?assign2 ?body2 ?done2
            case assign2 =>
              intro l x W K B hB hK
              dsimp only [encsH, heldC] at hK ⊢
              gi_wp2
              exact hK
            case hI2 =>
              rintro s X Y row ⟨h1, h2, h3, ⟨sb, h4, h4'⟩, h5⟩ hg hr
              exact ⟨h1.grown hSlt hg (fun r e hb => by have := (hr r e).1; have := hSlt r hb; omega), boxed_own2 h2 hg (fun r e => (hr r e).2), boxed_own2 h3 hg (fun r e => (hr r e).2), ⟨sb, boxed_own2 h4 hg (fun r e => (hr r e).2), h4'⟩, h5.grown hg h5.size (fun k e => by have := (hr k e).1; have := hB11.size; omega)⟩
            case h02 => exact ⟨KeepS.refl _ _, b14, b15, ⟨true, b16, fun _ => rfl⟩, hB11⟩
            case body2 =>
              rintro lp pre x B X hB hbx ⟨hk, b14, b15, ⟨sb, b16, hsb⟩, hbl⟩ ⟨r, hr⟩
              have hxm : x ∈ M := by rw [← hr]; simp
              have hun := HMN.out x hxm
              have hrow := step_row HST.out
              have hrow2 := fun h => hrow h x hxm
              have hpl : pre.length < 101 := by have h := congrArg List.length hr; rw [List.length_append, List.length_cons] at h; omega
              have HSB := Lib.hid (show ∀ (j : Nat) (hj : pre.length = j) (h1 : M = L1), ∃ h2 : j < L1.length, L1[j] = x from fun j hj h1 => by
                subst hj
                have h2 : pre.length < L1.length := by rw [← h1, ← hr, List.length_append, List.length_cons]; omega
                refine ⟨h2, ?_⟩
                have h3 : L1[pre.length]? = some x := by rw [← h1, ← hr, List.getElem?_append_right (Nat.le_refl _), Nat.sub_self]; rfl
                rw [List.getElem?_eq_getElem h2] at h3
                injection h3)
              have b7X := hk.boxed (hSy _ (by omega) (by omega) (by omega) (by omega)) b7
              have b10X := hk.boxed (hSy _ (by omega) (by omega) (by omega) (by omega)) b10
              have b12X := hk.boxed (hSy _ (by omega) (by omega) (by omega) (by omega)) b12
              have b13X := hk.boxed (hSy _ (by omega) (by omega) (by omega) (by omega)) b13
              have hdX : X.heap[wr.heap.size]? = some (.cells (doC (kd, wt, pr, hs)) 32 (0, 0)) := (hk.2 _ (hSy _ (by omega) (by omega) (by omega) (by omega))).trans hd11
              have hcX : ∀ j, j < L1.length → ∃ ad2, Av = some ad2 ∧ L1.length ≤ cv ∧ (ad2.add (j * 3)).block < q14 ∧ X.cell? (ad2.add (j * 3)) = some (.int .i64 (L1[j]!).1) ∧ X.cell? ⟨(ad2.add (j * 3)).block, (ad2.add (j * 3)).off + 1, none⟩ = some (.int .u32 (L1[j]!).2.1) ∧ X.cell? ⟨(ad2.add (j * 3)).block, (ad2.add (j * 3)).off + 2, none⟩ = some (.int .i64 (L1[j]!).2.2) := by
                intro j hj
                rcases HCY.out with h0 | ⟨gr, h1, h2, h3, h4, h5⟩
                · omega
                · obtain ⟨y0, y1, y2⟩ := h5 X ((hk.2 gr (hSy _ (by omega) (by omega) (by omega) (by omega))).trans (ht11.2.2.2.2 gr (by omega) (by omega) (by omega))) j hj
                  refine ⟨_, h1, h4, by rw [Go.Proofs.YtglpjoijkinlbaaW.PrintWords.add_plain]; show gr < q14; omega, ?_, ?_, ?_⟩ <;> rw [Go.Proofs.YtglpjoijkinlbaaW.PrintWords.add_plain, getElem!_pos L1 j hj] <;> assumption
              have Hk := Lib.hid hk
              have HSn := Lib.hid hSn
              have HSl := Lib.hid hSlt
              have HBL := Lib.hid hbl
              have HX7 := Lib.hid b7X
              have HX12 := Lib.hid b12X
              have HX13 := Lib.hid b13X
              have HX14 := Lib.hid b14
              have HX15 := Lib.hid b15
              have HX16 := Lib.hid b16
              have HXd := Lib.hid hdX
              have HXB := Lib.hid hbx
              have hcl : cntH pre hs ≤ pre.length := List.length_filter_le _ _
              obtain ⟨j, hj⟩ : ∃ j, pre.length = j := ⟨_, rfl⟩
              obtain ⟨ct, hct⟩ : ∃ ct, cntH pre hs = ct := ⟨_, rfl⟩
              rw [hj] at b14 HX14 hpl
              rw [hct] at b15 HX15
              have HJ := Lib.hid hj
              have HCT := Lib.hid hct
              rw [hct, HJ.out] at hcl
              obtain ⟨xp, xh, xu⟩ := x
              have HSBj := Lib.hid (HSB.out j hj)
              have HNL := Lib.hid (show w.heap.size < q14 ∧ w3.heap.size < q14 ∧ wr.heap.size < q14 ∧ Wx.heap.size < q14 ∧ q12 < q14 ∧ q13 < q14 ∧ q14 < q15 ∧ q15 < q16 ∧ q16 < B ∧ q16 < w11.heap.size ∧ w11.heap.size ≤ X.heap.size ∧ B < X.heap.size ∧ W.heap.size ≤ q14 from ⟨by have := HS2.out; omega, by omega, by omega, by omega, by omega, by omega, by omega, by omega, by omega, by omega, hk.1, (Array.getElem?_eq_some_iff.1 hbx).1, by omega⟩)
              obtain ⟨f0, f1, f2⟩ := held_cells hbx
              dsimp only at f0 f1 f2 hun hrow2
              have HUN := Lib.hid hun
              have HR2 := Lib.hid hrow2
              have c10 := b10X.cell
              have c14 := b14.cell
              have c16 := b16.cell
              have f16 := b16.frozen
              have HCX := Lib.hid hcX
              have Hsb := Lib.hid hsb
              clear hk hSn hSy hSlt seq hj hct hrc hrow11 hown11 a1 a2 ht11 hT11 b7 b10 b12 b13 b14 b15 b16 b7X b10X b12X b13X hd11 hdX hB11 hp1 hp2 hb2 hp1l hp2l hb2l hHG hs8 hTs hq hbx hbl hr hB hml2 hxm hun hrow hrow2 HSB hcX hsb c7
              gi_upto_region 23 with fail
              have hmix : Try.prog.follows .mixedOrders = true := by kernel_rfl
              gi_cut [] from 77 (fun wx => ∃ r8 : Bool, wx = X.drew.setCell ⟨q16, 0, none⟩ (.bool r8) ∧ (M = L1 → r8 = true))
              case first =>
                have hnl := HNL.out
                cases sb with
                | false =>
                  refine Rr.wpIn_round_held_drew (S := fun w' => w'.cell? ⟨q14, 0, none⟩ = some (.int .i64 j) ∧ w'.cell? ⟨Wx.heap.size, 0, none⟩ = some (.slice Av L1.length cv) ∧ w'.cell? ⟨B, 0, none⟩ = some (.int .i64 xp) ∧ w'.cell? ⟨B, 1, none⟩ = some (.int .u32 xh) ∧ w'.cell? ⟨B, 2, none⟩ = some (.int .i64 xu)) hmix (by kernel_rfl) (by rintro ⟨a', w', h'⟩; exact nomatch (show Exit.outgrown = Exit.normal ∧ _ from h').1) ?_ (fun hHeld => ?_)
                  · exact ⟨c14, c10, f0, f1, f2⟩
                  refine wpAnyH_ready (rs := [0]) (by kernel_rfl) (by simp) ?_
                  refine AllReadyH.cons rfl (fun K hK => ?_) AllReadyH.nil
                  go_simp
                  skip
                  refine hK.out _ _ ?_ (fun hHeld => ?_)
                  · exact hHeld
                  clear hK K
                  try simp only [Act.put, List.setIfInBounds_toArray, List.set_cons_zero, List.set_cons_succ, List.getElem_toArray, List.getElem_cons_succ, List.getElem_cons_zero]
                  refine wpAnyH_take (i := 1) (v := ?_) rfl (by kernel_rfl) (by kernel_rfl) (by kernel_rfl) (fun _ _ _ h => h) (Or.inl ⟨by rfl, ?_⟩) (by assumption) ?_
                  rotate_left
                  · (intro w hSw; (try dsimp only at hSw); go_simp; try with_reducible rfl)
                  try simp only [Act.put, List.setIfInBounds_toArray, List.set_cons_zero, List.set_cons_succ, List.getElem_toArray, List.getElem_cons_succ, List.getElem_cons_zero]
                  refine wpAnyH_take (i := 2) (v := undef) rfl (by kernel_rfl) (by kernel_rfl) (by kernel_rfl) (fun _ _ _ h => h) (Or.inr ⟨by rfl, rfl⟩) (by assumption) ?_
                  try simp only [Act.put, List.setIfInBounds_toArray, List.set_cons_zero, List.set_cons_succ, List.getElem_toArray, List.getElem_cons_succ, List.getElem_cons_zero]
                  refine wpAnyH_take (i := 3) (v := undef) rfl (by kernel_rfl) (by kernel_rfl) (by kernel_rfl) (fun _ _ _ h => h) (Or.inr ⟨by rfl, rfl⟩) (by assumption) ?_
                  try simp only [Act.put, List.setIfInBounds_toArray, List.set_cons_zero, List.set_cons_succ, List.getElem_toArray, List.getElem_cons_succ, List.getElem_cons_zero]
                  refine wpAnyH_take (i := 4) (v := undef) rfl (by kernel_rfl) (by kernel_rfl) (by kernel_rfl) (fun _ _ _ h => h) (Or.inr ⟨by rfl, rfl⟩) (by assumption) ?_
                  try simp only [Act.put, List.setIfInBounds_toArray, List.set_cons_zero, List.set_cons_succ, List.getElem_toArray, List.getElem_cons_succ, List.getElem_cons_zero]
                  refine wpAnyH_take (i := 5) (v := undef) rfl (by kernel_rfl) (by kernel_rfl) (by kernel_rfl) (fun _ _ _ h => h) (Or.inr ⟨by rfl, rfl⟩) (by assumption) ?_
                  try simp only [Act.put, List.setIfInBounds_toArray, List.set_cons_zero, List.set_cons_succ, List.getElem_toArray, List.getElem_cons_succ, List.getElem_cons_zero]
                  refine wpAnyH_take (i := 6) (v := ?_) rfl (by kernel_rfl) (by kernel_rfl) (by kernel_rfl) (fun _ _ _ h => h) (Or.inl ⟨by rfl, ?_⟩) (by assumption) ?_
                  rotate_left
                  · (intro w hSw; (try dsimp only at hSw); go_simp; try with_reducible rfl)
                  try simp only [Act.put, List.setIfInBounds_toArray, List.set_cons_zero, List.set_cons_succ, List.getElem_toArray, List.getElem_cons_succ, List.getElem_cons_zero]
                  refine wpAnyH_take (i := 7) (v := ?_) rfl (by kernel_rfl) (by kernel_rfl) (by kernel_rfl) (fun _ _ _ h => h) (Or.inl ⟨by rfl, ?_⟩) (by assumption) ?_
                  rotate_left
                  · (intro w hSw; (try dsimp only at hSw); go_simp; try with_reducible rfl)
                  try simp only [Act.put, List.setIfInBounds_toArray, List.set_cons_zero, List.set_cons_succ, List.getElem_toArray, List.getElem_cons_succ, List.getElem_cons_zero]
                  refine wpAnyH_take (i := 8) (v := undef) rfl (by kernel_rfl) (by kernel_rfl) (by kernel_rfl) (fun _ _ _ h => h) (Or.inr ⟨by rfl, rfl⟩) (by assumption) ?_
                  try simp only [Act.put, List.setIfInBounds_toArray, List.set_cons_zero, List.set_cons_succ, List.getElem_toArray, List.getElem_cons_succ, List.getElem_cons_zero]
                  refine wpAnyH_take (i := 9) (v := undef) rfl (by kernel_rfl) (by kernel_rfl) (by kernel_rfl) (fun _ _ _ h => h) (Or.inr ⟨by rfl, rfl⟩) (by assumption) ?_
                  try simp only [Act.put, List.setIfInBounds_toArray, List.set_cons_zero, List.set_cons_succ, List.getElem_toArray, List.getElem_cons_succ, List.getElem_cons_zero]
                  refine wpAnyH_take (i := 10) (v := undef) rfl (by kernel_rfl) (by kernel_rfl) (by kernel_rfl) (fun _ _ _ h => h) (Or.inr ⟨by rfl, rfl⟩) (by assumption) ?_
                  try simp only [Act.put, List.setIfInBounds_toArray, List.set_cons_zero, List.set_cons_succ, List.getElem_toArray, List.getElem_cons_succ, List.getElem_cons_zero]
                  refine wpAnyH_take (i := 11) (v := undef) rfl (by kernel_rfl) (by kernel_rfl) (by kernel_rfl) (fun _ _ _ h => h) (Or.inr ⟨by rfl, rfl⟩) (by assumption) ?_
                  try simp only [Act.put, List.setIfInBounds_toArray, List.set_cons_zero, List.set_cons_succ, List.getElem_toArray, List.getElem_cons_succ, List.getElem_cons_zero]
                  refine wpAnyH_take (i := 12) (v := undef) rfl (by kernel_rfl) (by kernel_rfl) (by kernel_rfl) (fun _ _ _ h => h) (Or.inr ⟨by rfl, rfl⟩) (by assumption) ?_
                  try simp only [Act.put, List.setIfInBounds_toArray, List.set_cons_zero, List.set_cons_succ, List.getElem_toArray, List.getElem_cons_succ, List.getElem_cons_zero]
                  refine wpAnyH_take (i := 13) (v := undef) rfl (by kernel_rfl) (by kernel_rfl) (by kernel_rfl) (fun _ _ _ h => h) (Or.inr ⟨by rfl, rfl⟩) (by assumption) ?_
                  try simp only [Act.put, List.setIfInBounds_toArray, List.set_cons_zero, List.set_cons_succ, List.getElem_toArray, List.getElem_cons_succ, List.getElem_cons_zero]
                  refine wpAnyH_take (i := 14) (v := ?_) rfl (by kernel_rfl) (by kernel_rfl) (by kernel_rfl) (fun _ _ _ h => h) (Or.inl ⟨by rfl, ?_⟩) (by assumption) ?_
                  rotate_left
                  · (intro w hSw; (try dsimp only at hSw); go_simp; try with_reducible rfl)
                  try simp only [Act.put, List.setIfInBounds_toArray, List.set_cons_zero, List.set_cons_succ, List.getElem_toArray, List.getElem_cons_succ, List.getElem_cons_zero]
                  refine wpAnyH_ready (rs := [15]) (by kernel_rfl) (by simp) ?_
                  refine AllReadyH.cons rfl (fun K hK => ?_) AllReadyH.nil
                  go_simp
                  skip
                  refine hK.out _ _ ?_ (fun hHeld => ?_)
                  · exact ⟨(World.cell?_setCell_far _ _ _ _ (by show q16 ≠ q14; omega)).trans hHeld.1, (World.cell?_setCell_far _ _ _ _ (by show q16 ≠ Wx.heap.size; omega)).trans hHeld.2.1, (World.cell?_setCell_far _ _ _ _ (by show q16 ≠ B; omega)).trans hHeld.2.2.1, (World.cell?_setCell_far _ _ _ _ (by show q16 ≠ B; omega)).trans hHeld.2.2.2.1, (World.cell?_setCell_far _ _ _ _ (by show q16 ≠ B; omega)).trans hHeld.2.2.2.2⟩
                  clear hK K
                  try simp only [Act.put, List.setIfInBounds_toArray, List.set_cons_zero, List.set_cons_succ, List.getElem_toArray, List.getElem_cons_succ, List.getElem_cons_zero]
                  refine wpAnyH_done (by kernel_rfl) ?_ _
                  (try gi_wp2)
                  gi_meet
                  case rel => exact ⟨false, rfl, fun h => Hsb.out h⟩
                | true =>
                  by_cases hjl : j < L1.length
                  · have g1 : decide ((j : Int) < (L1.length : Int)) = true := decide_eq_true (by omega)
                    have g2 : (j : Int) < (L1.length : Int) := by omega
                    obtain ⟨ad2, hA2, hcv, hbk, y0, y1, y2⟩ := HCX.out j hjl
                    obtain ⟨⟨l1, l2, l3⟩, hl⟩ : ∃ z, L1[j]! = z := ⟨_, rfl⟩
                    rw [hl] at y0 y1 y2
                    dsimp only at y0 y1 y2
                    have HLZ := Lib.hid (show L1[j] = (l1, l2, l3) by rw [← hl]; exact (getElem!_pos L1 j hjl).symm)
                    obtain ⟨r8, hr8⟩ : ∃ r, decide ((xp, xh, xu) = (l1, l2, l3)) = r := ⟨_, rfl⟩
                    have qe : ∀ w : World, (binOp .eql 38 (.agg #[.int .i64 xp, .int .u32 xh, .int .i64 xu]) (.agg #[.int .i64 l1, .int .u32 l2, .int .i64 l3])).run Try.prog w = .ok (.bool r8) w := fun w => by rw [eqHd', hr8]
                    have HR8 := Lib.hid hr8
                    subst hA2
                    clear hr8 hl
                    refine Rr.wpIn_round_held_drew (S := fun w' => w'.cell? ⟨q14, 0, none⟩ = some (.int .i64 j) ∧ w'.cell? ⟨Wx.heap.size, 0, none⟩ = some (.slice (some ad2) L1.length cv) ∧ w'.cell? ⟨B, 0, none⟩ = some (.int .i64 xp) ∧ w'.cell? ⟨B, 1, none⟩ = some (.int .u32 xh) ∧ w'.cell? ⟨B, 2, none⟩ = some (.int .i64 xu) ∧ w'.cell? (ad2.add (j * 3)) = some (.int .i64 l1) ∧ w'.cell? ⟨(ad2.add (j * 3)).block, (ad2.add (j * 3)).off + 1, none⟩ = some (.int .u32 l2) ∧ w'.cell? ⟨(ad2.add (j * 3)).block, (ad2.add (j * 3)).off + 2, none⟩ = some (.int .i64 l3)) hmix (by kernel_rfl) (by rintro ⟨a', w', h'⟩; exact nomatch (show Exit.outgrown = Exit.normal ∧ _ from h').1) ?_ (fun hHeld => ?_)
                    · exact ⟨c14, c10, f0, f1, f2, y0, y1, y2⟩
                    refine wpAnyH_ready (rs := [0]) (by kernel_rfl) (by simp) ?_
                    refine AllReadyH.cons rfl (fun K hK => ?_) AllReadyH.nil
                    go_simp
                    skip
                    refine hK.out _ _ ?_ (fun hHeld => ?_)
                    · exact hHeld
                    clear hK K
                    try simp only [Act.put, List.setIfInBounds_toArray, List.set_cons_zero, List.set_cons_succ, List.getElem_toArray, List.getElem_cons_succ, List.getElem_cons_zero]
                    refine wpAnyH_take (i := 1) (v := ?_) rfl (by kernel_rfl) (by kernel_rfl) (by kernel_rfl) (fun _ _ _ h => h) (Or.inl ⟨by rfl, ?_⟩) (by assumption) ?_
                    rotate_left
                    · (intro w hSw; (try dsimp only at hSw); go_simp; try with_reducible rfl)
                    try simp only [Act.put, List.setIfInBounds_toArray, List.set_cons_zero, List.set_cons_succ, List.getElem_toArray, List.getElem_cons_succ, List.getElem_cons_zero]
                    refine wpAnyH_take (i := 2) (v := ?_) rfl (by kernel_rfl) (by kernel_rfl) (by kernel_rfl) (fun _ _ _ h => h) (Or.inl ⟨by rfl, ?_⟩) (by assumption) ?_
                    rotate_left
                    · (intro w hSw; (try dsimp only at hSw); go_simp; try with_reducible rfl)
                    try simp only [Act.put, List.setIfInBounds_toArray, List.set_cons_zero, List.set_cons_succ, List.getElem_toArray, List.getElem_cons_succ, List.getElem_cons_zero]
                    refine wpAnyH_take (i := 3) (v := ?_) rfl (by kernel_rfl) (by kernel_rfl) (by kernel_rfl) (fun _ _ _ h => h) (Or.inl ⟨by rfl, ?_⟩) (by assumption) ?_
                    rotate_left
                    · (intro w hSw; (try dsimp only at hSw); go_simp; try with_reducible rfl)
                    try simp only [Act.put, List.setIfInBounds_toArray, List.set_cons_zero, List.set_cons_succ, List.getElem_toArray, List.getElem_cons_succ, List.getElem_cons_zero]
                    refine wpAnyH_take (i := 4) (v := ?_) rfl (by kernel_rfl) (by kernel_rfl) (by kernel_rfl) (fun _ _ _ h => h) (Or.inl ⟨by rfl, ?_⟩) (by assumption) ?_
                    rotate_left
                    · (intro w hSw; (try dsimp only at hSw); go_simp; try with_reducible rfl)
                    try simp only [Act.put, List.setIfInBounds_toArray, List.set_cons_zero, List.set_cons_succ, List.getElem_toArray, List.getElem_cons_succ, List.getElem_cons_zero]
                    refine wpAnyH_take (i := 5) (v := ?_) rfl (by kernel_rfl) (by kernel_rfl) (by kernel_rfl) (fun _ _ _ h => h) (Or.inl ⟨by rfl, ?_⟩) (by assumption) ?_
                    rotate_left
                    · (intro w hSw; (try dsimp only at hSw); go_simp; try with_reducible rfl)
                    try simp only [Act.put, List.setIfInBounds_toArray, List.set_cons_zero, List.set_cons_succ, List.getElem_toArray, List.getElem_cons_succ, List.getElem_cons_zero]
                    refine wpAnyH_take (i := 6) (v := ?_) rfl (by kernel_rfl) (by kernel_rfl) (by kernel_rfl) (fun _ _ _ h => h) (Or.inl ⟨by rfl, ?_⟩) (by assumption) ?_
                    rotate_left
                    · (intro w hSw; (try dsimp only at hSw); go_simp; try with_reducible rfl)
                    try simp only [Act.put, List.setIfInBounds_toArray, List.set_cons_zero, List.set_cons_succ, List.getElem_toArray, List.getElem_cons_succ, List.getElem_cons_zero]
                    refine wpAnyH_take (i := 7) (v := ?_) rfl (by kernel_rfl) (by kernel_rfl) (by kernel_rfl) (fun _ _ _ h => h) (Or.inl ⟨by rfl, ?_⟩) (by assumption) ?_
                    rotate_left
                    · (intro w hSw; (try dsimp only at hSw); go_simp; try with_reducible rfl)
                    try simp only [Act.put, List.setIfInBounds_toArray, List.set_cons_zero, List.set_cons_succ, List.getElem_toArray, List.getElem_cons_succ, List.getElem_cons_zero]
                    refine wpAnyH_take (i := 8) (v := ?_) rfl (by kernel_rfl) (by kernel_rfl) (by kernel_rfl) (fun _ _ _ h => h) (Or.inl ⟨by rfl, ?_⟩) (by assumption) ?_
                    rotate_left
                    · (intro w hSw; (try dsimp only at hSw); go_simp; try with_reducible rfl)
                    try simp only [Act.put, List.setIfInBounds_toArray, List.set_cons_zero, List.set_cons_succ, List.getElem_toArray, List.getElem_cons_succ, List.getElem_cons_zero]
                    refine wpAnyH_take (i := 9) (v := ?_) rfl (by kernel_rfl) (by kernel_rfl) (by kernel_rfl) (fun _ _ _ h => h) (Or.inl ⟨by rfl, ?_⟩) (by assumption) ?_
                    rotate_left
                    · (intro w hSw; (try dsimp only at hSw); go_simp; try with_reducible rfl)
                    try simp only [Act.put, List.setIfInBounds_toArray, List.set_cons_zero, List.set_cons_succ, List.getElem_toArray, List.getElem_cons_succ, List.getElem_cons_zero]
                    refine wpAnyH_take (i := 10) (v := ?_) rfl (by kernel_rfl) (by kernel_rfl) (by kernel_rfl) (fun _ _ _ h => h) (Or.inl ⟨by rfl, ?_⟩) (by assumption) ?_
                    rotate_left
                    · (intro w hSw; (try dsimp only at hSw); go_simp; try with_reducible rfl)
                    try simp only [Act.put, List.setIfInBounds_toArray, List.set_cons_zero, List.set_cons_succ, List.getElem_toArray, List.getElem_cons_succ, List.getElem_cons_zero]
                    refine wpAnyH_take (i := 11) (v := ?_) rfl (by kernel_rfl) (by kernel_rfl) (by kernel_rfl) (fun _ _ _ h => h) (Or.inl ⟨by rfl, ?_⟩) (by assumption) ?_
                    rotate_left
                    · (intro w hSw; (try dsimp only at hSw); go_simp; try with_reducible rfl)
                    try simp only [Act.put, List.setIfInBounds_toArray, List.set_cons_zero, List.set_cons_succ, List.getElem_toArray, List.getElem_cons_succ, List.getElem_cons_zero]
                    refine wpAnyH_take (i := 12) (v := ?_) rfl (by kernel_rfl) (by kernel_rfl) (by kernel_rfl) (fun _ _ _ h => h) (Or.inl ⟨by rfl, ?_⟩) (by assumption) ?_
                    rotate_left
                    · (intro w hSw; (try dsimp only at hSw); go_simp; try with_reducible rfl)
                    try simp only [Act.put, List.setIfInBounds_toArray, List.set_cons_zero, List.set_cons_succ, List.getElem_toArray, List.getElem_cons_succ, List.getElem_cons_zero]
                    refine wpAnyH_take (i := 13) (v := ?_) rfl (by kernel_rfl) (by kernel_rfl) (by kernel_rfl) (fun _ _ _ h => h) (Or.inl ⟨by rfl, ?_⟩) (by assumption) ?_
                    rotate_left
                    · (intro w hSw; (try dsimp only at hSw); go_simp; try with_reducible rfl)
                    try simp only [Act.put, List.setIfInBounds_toArray, List.set_cons_zero, List.set_cons_succ, List.getElem_toArray, List.getElem_cons_succ, List.getElem_cons_zero]
                    refine wpAnyH_take (i := 14) (v := ?_) rfl (by kernel_rfl) (by kernel_rfl) (by kernel_rfl) (fun _ _ _ h => h) (Or.inl ⟨by rfl, ?_⟩) (by assumption) ?_
                    rotate_left
                    · (intro w hSw; (try dsimp only at hSw); go_simp; try with_reducible rfl)
                    try simp only [Act.put, List.setIfInBounds_toArray, List.set_cons_zero, List.set_cons_succ, List.getElem_toArray, List.getElem_cons_succ, List.getElem_cons_zero]
                    refine wpAnyH_ready (rs := [15]) (by kernel_rfl) (by simp) ?_
                    refine AllReadyH.cons rfl (fun K hK => ?_) AllReadyH.nil
                    go_simp
                    skip
                    refine hK.out _ _ ?_ (fun hHeld => ?_)
                    · exact ⟨(World.cell?_setCell_far _ _ _ _ (by show q16 ≠ q14; omega)).trans hHeld.1, (World.cell?_setCell_far _ _ _ _ (by show q16 ≠ Wx.heap.size; omega)).trans hHeld.2.1, (World.cell?_setCell_far _ _ _ _ (by show q16 ≠ B; omega)).trans hHeld.2.2.1, (World.cell?_setCell_far _ _ _ _ (by show q16 ≠ B; omega)).trans hHeld.2.2.2.1, (World.cell?_setCell_far _ _ _ _ (by show q16 ≠ B; omega)).trans hHeld.2.2.2.2.1, (World.cell?_setCell_far _ _ _ _ (by show q16 ≠ (ad2.add (j * 3)).block; omega)).trans hHeld.2.2.2.2.2.1, (World.cell?_setCell_far _ _ _ _ (by show q16 ≠ (ad2.add (j * 3)).block; omega)).trans hHeld.2.2.2.2.2.2.1, (World.cell?_setCell_far _ _ _ _ (by show q16 ≠ (ad2.add (j * 3)).block; omega)).trans hHeld.2.2.2.2.2.2.2⟩
                    clear hK K
                    try simp only [Act.put, List.setIfInBounds_toArray, List.set_cons_zero, List.set_cons_succ, List.getElem_toArray, List.getElem_cons_succ, List.getElem_cons_zero]
                    refine wpAnyH_done (by kernel_rfl) ?_ _
                    (try gi_wp2)
                    gi_meet
                    case rel => exact ⟨r8, rfl, fun h => by rw [← HR8.out, decide_eq_true_iff]; obtain ⟨h2, h3⟩ := HSBj.out h; rw [HLZ.out] at h3; exact h3.symm⟩
                  · have g1 : decide ((j : Int) < (L1.length : Int)) = false := decide_eq_false (by omega)
                    refine Rr.wpIn_round_held_drew (S := fun w' => w'.cell? ⟨q14, 0, none⟩ = some (.int .i64 j) ∧ w'.cell? ⟨Wx.heap.size, 0, none⟩ = some (.slice Av L1.length cv) ∧ w'.cell? ⟨B, 0, none⟩ = some (.int .i64 xp) ∧ w'.cell? ⟨B, 1, none⟩ = some (.int .u32 xh) ∧ w'.cell? ⟨B, 2, none⟩ = some (.int .i64 xu)) hmix (by kernel_rfl) (by rintro ⟨a', w', h'⟩; exact nomatch (show Exit.outgrown = Exit.normal ∧ _ from h').1) ?_ (fun hHeld => ?_)
                    · exact ⟨c14, c10, f0, f1, f2⟩
                    refine wpAnyH_ready (rs := [0]) (by kernel_rfl) (by simp) ?_
                    refine AllReadyH.cons rfl (fun K hK => ?_) AllReadyH.nil
                    go_simp
                    skip
                    refine hK.out _ _ ?_ (fun hHeld => ?_)
                    · exact hHeld
                    clear hK K
                    try simp only [Act.put, List.setIfInBounds_toArray, List.set_cons_zero, List.set_cons_succ, List.getElem_toArray, List.getElem_cons_succ, List.getElem_cons_zero]
                    refine wpAnyH_take (i := 1) (v := ?_) rfl (by kernel_rfl) (by kernel_rfl) (by kernel_rfl) (fun _ _ _ h => h) (Or.inl ⟨by rfl, ?_⟩) (by assumption) ?_
                    rotate_left
                    · (intro w hSw; (try dsimp only at hSw); go_simp; try with_reducible rfl)
                    try simp only [Act.put, List.setIfInBounds_toArray, List.set_cons_zero, List.set_cons_succ, List.getElem_toArray, List.getElem_cons_succ, List.getElem_cons_zero]
                    refine wpAnyH_take (i := 2) (v := ?_) rfl (by kernel_rfl) (by kernel_rfl) (by kernel_rfl) (fun _ _ _ h => h) (Or.inl ⟨by rfl, ?_⟩) (by assumption) ?_
                    rotate_left
                    · (intro w hSw; (try dsimp only at hSw); go_simp; try with_reducible rfl)
                    try simp only [Act.put, List.setIfInBounds_toArray, List.set_cons_zero, List.set_cons_succ, List.getElem_toArray, List.getElem_cons_succ, List.getElem_cons_zero]
                    refine wpAnyH_take (i := 3) (v := ?_) rfl (by kernel_rfl) (by kernel_rfl) (by kernel_rfl) (fun _ _ _ h => h) (Or.inl ⟨by rfl, ?_⟩) (by assumption) ?_
                    rotate_left
                    · (intro w hSw; (try dsimp only at hSw); go_simp; try with_reducible rfl)
                    try simp only [Act.put, List.setIfInBounds_toArray, List.set_cons_zero, List.set_cons_succ, List.getElem_toArray, List.getElem_cons_succ, List.getElem_cons_zero]
                    refine wpAnyH_take (i := 4) (v := ?_) rfl (by kernel_rfl) (by kernel_rfl) (by kernel_rfl) (fun _ _ _ h => h) (Or.inl ⟨by rfl, ?_⟩) (by assumption) ?_
                    rotate_left
                    · (intro w hSw; (try dsimp only at hSw); go_simp; try with_reducible rfl)
                    try simp only [Act.put, List.setIfInBounds_toArray, List.set_cons_zero, List.set_cons_succ, List.getElem_toArray, List.getElem_cons_succ, List.getElem_cons_zero]
                    refine wpAnyH_take (i := 5) (v := ?_) rfl (by kernel_rfl) (by kernel_rfl) (by kernel_rfl) (fun _ _ _ h => h) (Or.inl ⟨by rfl, ?_⟩) (by assumption) ?_
                    rotate_left
                    · (intro w hSw; (try dsimp only at hSw); go_simp; try with_reducible rfl)
                    try simp only [Act.put, List.setIfInBounds_toArray, List.set_cons_zero, List.set_cons_succ, List.getElem_toArray, List.getElem_cons_succ, List.getElem_cons_zero]
                    refine wpAnyH_take (i := 6) (v := ?_) rfl (by kernel_rfl) (by kernel_rfl) (by kernel_rfl) (fun _ _ _ h => h) (Or.inl ⟨by rfl, ?_⟩) (by assumption) ?_
                    rotate_left
                    · (intro w hSw; (try dsimp only at hSw); go_simp; try with_reducible rfl)
                    try simp only [Act.put, List.setIfInBounds_toArray, List.set_cons_zero, List.set_cons_succ, List.getElem_toArray, List.getElem_cons_succ, List.getElem_cons_zero]
                    refine wpAnyH_take (i := 7) (v := ?_) rfl (by kernel_rfl) (by kernel_rfl) (by kernel_rfl) (fun _ _ _ h => h) (Or.inl ⟨by rfl, ?_⟩) (by assumption) ?_
                    rotate_left
                    · (intro w hSw; (try dsimp only at hSw); go_simp; try with_reducible rfl)
                    try simp only [Act.put, List.setIfInBounds_toArray, List.set_cons_zero, List.set_cons_succ, List.getElem_toArray, List.getElem_cons_succ, List.getElem_cons_zero]
                    refine wpAnyH_take (i := 8) (v := undef) rfl (by kernel_rfl) (by kernel_rfl) (by kernel_rfl) (fun _ _ _ h => h) (Or.inr ⟨by rfl, rfl⟩) (by assumption) ?_
                    try simp only [Act.put, List.setIfInBounds_toArray, List.set_cons_zero, List.set_cons_succ, List.getElem_toArray, List.getElem_cons_succ, List.getElem_cons_zero]
                    refine wpAnyH_take (i := 9) (v := undef) rfl (by kernel_rfl) (by kernel_rfl) (by kernel_rfl) (fun _ _ _ h => h) (Or.inr ⟨by rfl, rfl⟩) (by assumption) ?_
                    try simp only [Act.put, List.setIfInBounds_toArray, List.set_cons_zero, List.set_cons_succ, List.getElem_toArray, List.getElem_cons_succ, List.getElem_cons_zero]
                    refine wpAnyH_take (i := 10) (v := undef) rfl (by kernel_rfl) (by kernel_rfl) (by kernel_rfl) (fun _ _ _ h => h) (Or.inr ⟨by rfl, rfl⟩) (by assumption) ?_
                    try simp only [Act.put, List.setIfInBounds_toArray, List.set_cons_zero, List.set_cons_succ, List.getElem_toArray, List.getElem_cons_succ, List.getElem_cons_zero]
                    refine wpAnyH_take (i := 11) (v := undef) rfl (by kernel_rfl) (by kernel_rfl) (by kernel_rfl) (fun _ _ _ h => h) (Or.inr ⟨by rfl, rfl⟩) (by assumption) ?_
                    try simp only [Act.put, List.setIfInBounds_toArray, List.set_cons_zero, List.set_cons_succ, List.getElem_toArray, List.getElem_cons_succ, List.getElem_cons_zero]
                    refine wpAnyH_take (i := 12) (v := undef) rfl (by kernel_rfl) (by kernel_rfl) (by kernel_rfl) (fun _ _ _ h => h) (Or.inr ⟨by rfl, rfl⟩) (by assumption) ?_
                    try simp only [Act.put, List.setIfInBounds_toArray, List.set_cons_zero, List.set_cons_succ, List.getElem_toArray, List.getElem_cons_succ, List.getElem_cons_zero]
                    refine wpAnyH_take (i := 13) (v := undef) rfl (by kernel_rfl) (by kernel_rfl) (by kernel_rfl) (fun _ _ _ h => h) (Or.inr ⟨by rfl, rfl⟩) (by assumption) ?_
                    try simp only [Act.put, List.setIfInBounds_toArray, List.set_cons_zero, List.set_cons_succ, List.getElem_toArray, List.getElem_cons_succ, List.getElem_cons_zero]
                    refine wpAnyH_take (i := 14) (v := ?_) rfl (by kernel_rfl) (by kernel_rfl) (by kernel_rfl) (fun _ _ _ h => h) (Or.inl ⟨by rfl, ?_⟩) (by assumption) ?_
                    rotate_left
                    · (intro w hSw; (try dsimp only at hSw); go_simp; try with_reducible rfl)
                    try simp only [Act.put, List.setIfInBounds_toArray, List.set_cons_zero, List.set_cons_succ, List.getElem_toArray, List.getElem_cons_succ, List.getElem_cons_zero]
                    refine wpAnyH_ready (rs := [15]) (by kernel_rfl) (by simp) ?_
                    refine AllReadyH.cons rfl (fun K hK => ?_) AllReadyH.nil
                    go_simp
                    skip
                    refine hK.out _ _ ?_ (fun hHeld => ?_)
                    · exact ⟨(World.cell?_setCell_far _ _ _ _ (by show q16 ≠ q14; omega)).trans hHeld.1, (World.cell?_setCell_far _ _ _ _ (by show q16 ≠ Wx.heap.size; omega)).trans hHeld.2.1, (World.cell?_setCell_far _ _ _ _ (by show q16 ≠ B; omega)).trans hHeld.2.2.1, (World.cell?_setCell_far _ _ _ _ (by show q16 ≠ B; omega)).trans hHeld.2.2.2.1, (World.cell?_setCell_far _ _ _ _ (by show q16 ≠ B; omega)).trans hHeld.2.2.2.2⟩
                    clear hK K
                    try simp only [Act.put, List.setIfInBounds_toArray, List.set_cons_zero, List.set_cons_succ, List.getElem_toArray, List.getElem_cons_succ, List.getElem_cons_zero]
                    refine wpAnyH_done (by kernel_rfl) ?_ _
                    (try gi_wp2)
                    gi_meet
                    case rel => exact ⟨false, rfl, fun h => absurd (HSBj.out h).1 hjl⟩
              case rest =>
                obtain ⟨r8, hwc, hr8⟩ := hcut
                obtain ⟨Xa, rfl⟩ : ∃ Y, Y = wc := ⟨_, rfl⟩
                have hnl := HNL.out
                have hXa : ∀ b, b ≠ q16 → Xa.heap[b]? = X.heap[b]? := fun b hb => by rw [hwc]; exact Below.heap_setCell _ _ _ _ hb
                have e16 : Boxed Xa q16 4 (.bool r8) := by rw [hwc]; exact (show Boxed X.drew q16 4 _ from HX16.out).set _
                have e14 : Boxed Xa q14 3 (.int .i64 j) := (hXa _ (by omega)).trans HX14.out
                have e15 : Boxed Xa q15 3 (.int .i64 ct) := (hXa _ (by omega)).trans HX15.out
                have e7 : Boxed Xa w3.heap.size 3 (.int .i64 now2) := (hXa _ (by omega)).trans HX7.out
                have e12 : Boxed Xa q12 3 (.int .i64 u) := (hXa _ (by omega)).trans HX12.out
                have e13 : Boxed Xa q13 27 (.int .i64 fc) := (hXa _ (by omega)).trans HX13.out
                have ed : Xa.heap[wr.heap.size]? = some (.cells (doC (kd, wt, pr, hs)) 32 (0, 0)) := (hXa _ (by omega)).trans HXd.out
                have eb : Xa.heap[B]? = some (.cells (heldC (xp, xh, xu)) 38 (0, 0)) := (hXa _ (by omega)).trans HXB.out
                have hba : Below W.heap.size W Xa := by rw [hwc]; exact (HBL.out.trans (below_drew _ X)).setCell (p := ⟨q16, 0, none⟩) (by show W.heap.size ≤ q16; omega) _
                have hka : KeepS S X Xa := by rw [hwc]; exact KeepS.trans (B := X.drew) ⟨Nat.le_refl _, fun _ _ => rfl⟩ (KeepS.setCell (p := ⟨q16, 0, none⟩) HSn.out.2.2 _)
                have hfa : KeepsFrom w11.heap.size X Xa := by rw [hwc]; exact ((KeepsOthers.drew X).trans (KeepsOthers.setCell _ _ _)).from _
                obtain ⟨c0, c1, c2, c3, c4, c5⟩ := LC.out Xa hba
                (try dsimp only at c0 c1 c2 c3 c4 c5)
                have E14 := Lib.hid e14
                have E15 := Lib.hid e15
                have E16 := Lib.hid e16
                have HBa := Lib.hid hba
                have HKa := Lib.hid hka
                have HFa := Lib.hid hfa
                have HR8 := Lib.hid hr8
                obtain ⟨d0, d1, d2, d3⟩ := do_cells ed
                obtain ⟨g0, g1, g2⟩ := held_cells eb
                dsimp only at d0 d1 d2 d3 g0 g1 g2
                clear c10 c14 c16 f16 f0 f1 f2 c0 c1 c2 c4 c5 d0 d1
                have c7 := e7.cell
                have c12 := e12.cell
                have c13 := e13.cell
                have c14 := e14.cell
                have f14 := e14.frozen
                have c15 := e15.cell
                have f15 := e15.frozen
                obtain ⟨n4, n6, n8, _, n10, n12, n1, n16, nB, _, _, _, nW⟩ := hnl
                have n2 : q14 < B := Nat.lt_trans n1 (Nat.lt_trans n16 nB)
                have n3 : q15 < B := Nat.lt_trans n16 nB
                have n5' : w.heap.size < q15 := Nat.lt_trans n4 n1
                have n7 : w3.heap.size < q15 := Nat.lt_trans n6 n1
                have n9 : wr.heap.size < q15 := Nat.lt_trans n8 n1
                have n11 : q12 < q15 := Nat.lt_trans n10 n1
                have n13 : q13 < q15 := Nat.lt_trans n12 n1
                have hw1 : wrap64 ((j : Int) + 1) = (j : Int) + 1 := w64_at j (Nat.lt_trans hpl (by decide))
                have hw2 : wrap64 ((ct : Int) + 1) = (ct : Int) + 1 := w64_at ct (Nat.lt_of_le_of_lt hcl (Nat.lt_trans hpl (by decide)))
                have hbd := HNW.out
                have hd := (mayL_iff _).1 HM.out
                have hun := HUN.out
                have u1 : decide (xu ≤ now2) = false := decide_eq_false (Int.not_le.2 hun)
                have hw3 : wrap64 (now2 + d) = now2 + d := IntWalk.wrap64_in _ (by dsimp only at hd; omega)
                have HST0 := Lib.hid (show fc = 0 → (if 1099511627776 < now2 + d then 1099511627776 else now2 + d) = u from fun h => by
                  rcases HST.out with ⟨h1, _⟩ | ⟨_, h2, _⟩
                  · exact absurd h h1
                  · rw [h2]; rfl)
                have hcn := cnt_snoc pre (xp, xh, xu) hs
                rw [HCT.out] at hcn
                dsimp only at hcn
                have HCN := Lib.hid hcn
                clear hwc hXa hr8 e16 e14 e15 e7 e12 e13 ed eb hba hka hfa hbd hd hun hpl hcl hcn
                by_cases hh : xh = hs
                · have v1 : (xh == hs) = true := by simpa using hh
                  have v1' : (xh != hs) = false := by simpa using hh
                  have HH := Lib.hid hh
                  clear hh
                  gi_upto_region 27 with fail
                  obtain ⟨Xb, hXb⟩ : ∃ Y, (Xa.setCell ⟨q14, 0, none⟩ (.int .i64 ((j : Int) + 1))).setCell ⟨q15, 0, none⟩ (.int .i64 ((ct : Int) + 1)) = Y := ⟨_, rfl⟩
                  have HEND := Lib.hid (show KeepsFrom w11.heap.size X Xb ∧ KeepS S X Xb ∧ Boxed Xb q14 3 (.int .i64 ((j : Int) + 1)) ∧ Boxed Xb q15 3 (.int .i64 (cntH (pre ++ [(xp, xh, xu)]) hs)) ∧ SbAt Xb q16 M L1 ∧ Below W.heap.size W Xb from by
                    rw [← hXb]
                    refine ⟨HFa.out.trans (((KeepsOthers.setCell _ _ _).trans (KeepsOthers.setCell _ _ _)).from _), (HKa.out.trans (KeepS.setCell (p := ⟨q14, 0, none⟩) HSn.out.1 _)).trans (KeepS.setCell (p := ⟨q15, 0, none⟩) HSn.out.2.1 _), boxed_set (E14.out.set _) (by show q14 ≠ q15; omega), ?_, ⟨r8, boxed_set (boxed_set E16.out (by show q16 ≠ q14; omega)) (by show q16 ≠ q15; omega), HR8.out⟩, (HBa.out.setCell (p := ⟨q14, 0, none⟩) nW _).setCell (p := ⟨q15, 0, none⟩) (by show W.heap.size ≤ q15; omega) _⟩
                    rw [HCN.out, if_pos HH.out]
                    exact (boxed_set E15.out (by show q15 ≠ q14; omega)).set _)
                  have hy : ∀ b o, b ≠ q14 → b ≠ q15 → Xb.cell? ⟨b, o, none⟩ = Xa.cell? ⟨b, o, none⟩ := fun b o h1 h2 => by rw [← hXb, World.cell?_setCell_far _ _ _ _ (Ne.symm h2), World.cell?_setCell_far _ _ _ _ (Ne.symm h1)]
                  have y3 := (hy w.heap.size 3 (by omega) (by omega)).trans c3
                  have y7 := (hy w3.heap.size 0 (by omega) (by omega)).trans c7
                  have y12 := (hy q12 0 (by omega) (by omega)).trans c12
                  have y13 := (hy q13 0 (by omega) (by omega)).trans c13
                  have yd2 := (hy wr.heap.size 2 (by omega) (by omega)).trans d2
                  have yd3 := (hy wr.heap.size 3 (by omega) (by omega)).trans d3
                  have yg0 := (hy B 0 (by omega) (by omega)).trans g0
                  have yg1 := (hy B 1 (by omega) (by omega)).trans g1
                  have yg2 := (hy B 2 (by omega) (by omega)).trans g2
                  rw [hXb]
                  clear hy hXb c3 c7 c12 c13 d2 d3 g0 g1 g2 c14 c15 f14 f15 n4 n6 n8 n10 n12 n1 n16 nB nW n2 n3 n5' n7 n9 n11 n13 hw1 hw2 v1
                  by_cases hf : fc = 0
                  · have v2 : (fc == 0) = true := by simpa using hf
                    have hmin := HST0.out hf
                    have hr2 := HR2.out hf
                    clear hf
                    by_cases hp : xp = pr
                    · have v3 : (xp == pr) = true := by simpa using hp
                      have v4 : (xu != u) = false := by simpa using (hr2 hp).1
                      have v5 : (u != u) = false := by simp
                      have v6 : (xh != hs) = false := by simpa using (hr2 hp).2
                      clear hp hr2 v1'
                      gi_wp2
                      all_goals first | (exfalso; rename_i hz _; revert hz; simp [undef]; done) | (exfalso; rename_i hz; revert hz; simp [undef]; done) | (obtain ⟨e1, e2, e4, e5, e6, e7⟩ := HEND.out; exact ⟨e1, e2, Hk.out.trans e2, (by have h := HJ.out; first | exact e4 | (rw [h]; exact e4) | (rw [List.length_append, h]; exact e4)), e5, e6, e7⟩)
                    · have v3 : (xp == pr) = false := by simpa using hp
                      clear hp hr2 hmin v1' hw3
                      gi_wp2
                      all_goals first | (exfalso; rename_i hz _; revert hz; simp [undef]; done) | (exfalso; rename_i hz; revert hz; simp [undef]; done) | (obtain ⟨e1, e2, e4, e5, e6, e7⟩ := HEND.out; exact ⟨e1, e2, Hk.out.trans e2, (by have h := HJ.out; first | exact e4 | (rw [h]; exact e4) | (rw [List.length_append, h]; exact e4)), e5, e6, e7⟩)
                  · have v2 : (fc == 0) = false := by simpa using hf
                    clear hf v1' hw3
                    gi_wp2
                    all_goals first | (exfalso; rename_i hz _; revert hz; simp [undef]; done) | (exfalso; rename_i hz; revert hz; simp [undef]; done) | (obtain ⟨e1, e2, e4, e5, e6, e7⟩ := HEND.out; exact ⟨e1, e2, Hk.out.trans e2, (by have h := HJ.out; first | exact e4 | (rw [h]; exact e4) | (rw [List.length_append, h]; exact e4)), e5, e6, e7⟩)
                · have v1 : (xh == hs) = false := by simpa using hh
                  have v1' : (xh != hs) = true := by simpa using hh
                  have HH := Lib.hid hh
                  clear hh
                  gi_upto_region 27 with fail
                  obtain ⟨Xb, hXb⟩ : ∃ Y, Xa.setCell ⟨q14, 0, none⟩ (.int .i64 ((j : Int) + 1)) = Y := ⟨_, rfl⟩
                  have HEND := Lib.hid (show KeepsFrom w11.heap.size X Xb ∧ KeepS S X Xb ∧ Boxed Xb q14 3 (.int .i64 ((j : Int) + 1)) ∧ Boxed Xb q15 3 (.int .i64 (cntH (pre ++ [(xp, xh, xu)]) hs)) ∧ SbAt Xb q16 M L1 ∧ Below W.heap.size W Xb from by
                    rw [← hXb]
                    refine ⟨HFa.out.trans ((KeepsOthers.setCell _ _ _).from _), HKa.out.trans (KeepS.setCell (p := ⟨q14, 0, none⟩) HSn.out.1 _), E14.out.set _, ?_, ⟨r8, boxed_set E16.out (by show q16 ≠ q14; omega), HR8.out⟩, HBa.out.setCell (p := ⟨q14, 0, none⟩) nW _⟩
                    rw [HCN.out, if_neg HH.out]
                    exact boxed_set E15.out (by show q15 ≠ q14; omega))
                  have hy : ∀ b o, b ≠ q14 → b ≠ q15 → Xb.cell? ⟨b, o, none⟩ = Xa.cell? ⟨b, o, none⟩ := fun b o h1 h2 => by rw [← hXb, World.cell?_setCell_far _ _ _ _ (Ne.symm h1)]
                  have y3 := (hy w.heap.size 3 (by omega) (by omega)).trans c3
                  have y7 := (hy w3.heap.size 0 (by omega) (by omega)).trans c7
                  have y12 := (hy q12 0 (by omega) (by omega)).trans c12
                  have y13 := (hy q13 0 (by omega) (by omega)).trans c13
                  have yd2 := (hy wr.heap.size 2 (by omega) (by omega)).trans d2
                  have yd3 := (hy wr.heap.size 3 (by omega) (by omega)).trans d3
                  have yg0 := (hy B 0 (by omega) (by omega)).trans g0
                  have yg1 := (hy B 1 (by omega) (by omega)).trans g1
                  have yg2 := (hy B 2 (by omega) (by omega)).trans g2
                  rw [hXb]
                  clear hy hXb c3 c7 c12 c13 d2 d3 g0 g1 g2 c14 c15 f14 f15 n4 n6 n8 n10 n12 n1 n16 nB nW n2 n3 n5' n7 n9 n11 n13 hw1 hw2 v1
                  by_cases hf : fc = 0
                  · have v2 : (fc == 0) = true := by simpa using hf
                    have hmin := HST0.out hf
                    have hr2 := HR2.out hf
                    clear hf
                    by_cases hp : xp = pr
                    · have v3 : (xp == pr) = true := by simpa using hp
                      have v4 : (xu != u) = false := by simpa using (hr2 hp).1
                      have v5 : (u != u) = false := by simp
                      have v6 : (xh != hs) = false := by simpa using (hr2 hp).2
                      clear hp hr2 v1'
                      gi_wp2
                      all_goals first | (exfalso; rename_i hz _; revert hz; simp [undef]; done) | (exfalso; rename_i hz; revert hz; simp [undef]; done) | (obtain ⟨e1, e2, e4, e5, e6, e7⟩ := HEND.out; exact ⟨e1, e2, Hk.out.trans e2, (by have h := HJ.out; first | exact e4 | (rw [h]; exact e4) | (rw [List.length_append, h]; exact e4)), e5, e6, e7⟩)
                    · have v3 : (xp == pr) = false := by simpa using hp
                      clear hp hr2 hmin v1' hw3
                      gi_wp2
                      all_goals first | (exfalso; rename_i hz _; revert hz; simp [undef]; done) | (exfalso; rename_i hz; revert hz; simp [undef]; done) | (obtain ⟨e1, e2, e4, e5, e6, e7⟩ := HEND.out; exact ⟨e1, e2, Hk.out.trans e2, (by have h := HJ.out; first | exact e4 | (rw [h]; exact e4) | (rw [List.length_append, h]; exact e4)), e5, e6, e7⟩)
                  · have v2 : (fc == 0) = false := by simpa using hf
                    clear hf v1' hw3
                    gi_wp2
                    all_goals first | (exfalso; rename_i hz _; revert hz; simp [undef]; done) | (exfalso; rename_i hz; revert hz; simp [undef]; done) | (obtain ⟨e1, e2, e4, e5, e6, e7⟩ := HEND.out; exact ⟨e1, e2, Hk.out.trans e2, (by have h := HJ.out; first | exact e4 | (rw [h]; exact e4) | (rw [List.length_append, h]; exact e4)), e5, e6, e7⟩)
            case done2 =>
              rintro D2 xs X hD hxs ⟨hk, b14, b15, ⟨sb, b16, hsb⟩, hbl⟩ hDf
              have hxs : xs = M := hxs
              rw [hxs] at b14 b15
              clear hxs
              have hne := HNE.out
              have hib := HIB.out
              have hlX := hk.1
              have HTX := Lib.hid (tab_keepS hT11 hk (hSy g (by omega) (by omega) (by omega) (by omega)) (hSy bm (by omega) (by omega) (by omega) (by omega)))
              have HOX := Lib.hid (OffT.keepS (HOY.out.trans (OffT.touch ht11 HO1.out.1 HO1.out.2.1)) hk (fun b hb _ => hSy b (by omega) (by omega) (by omega) (by omega)))
              have HMX := Lib.hid (show MarksOk O W.heap.size (D2 :: D1 :: Ds) X from MarksOk.cons (HM8.out.step (OffT.keepS (HOV.out.trans (OffT.touch ht11 HO1.out.1 HO1.out.2.1)) hk (fun b hb _ => hSy b (by omega) (by omega) (by omega) (by omega)))) (by omega) (HON.out D2 (by omega) (by omega) (by omega)) hDf (fun h => by have := HM8.out.lt D2 h; omega))
              have x7 : Boxed X w3.heap.size 3 (.int .i64 now2) := hk.boxed (hSy _ (by omega) (by omega) (by omega) (by omega)) b7
              have x10 := hk.boxed (hSy _ (by omega) (by omega) (by omega) (by omega)) b10
              have x13 := hk.boxed (hSy _ (by omega) (by omega) (by omega) (by omega)) b13
              have HX7 := Lib.hid x7
              have HBX := Lib.hid hbl
              have HN5 := Lib.hid (show n5 ≤ i + 1 by omega)
              obtain ⟨c0, c1, c2, c3, c4, c5⟩ := LC.out X hbl
              (try dsimp only at c0 c1 c2 c3 c4 c5)
              have c10 := x10.cell
              have c13 := x13.cell
              have c14 := b14.cell
              have c15 := b15.cell
              have c16 := b16.cell
              have hst := HST.out
              have hki := HKM.out
              obtain ⟨ml, hml⟩ : ∃ m, M.length = m := ⟨_, rfl⟩
              obtain ⟨ch, hch⟩ : ∃ m, cntH M hs = m := ⟨_, rfl⟩
              have g1 : decide ((ml : Int) > a) = false := decide_eq_false (by have := hki.2.1; rw [hml] at this; dsimp only at this; omega)
              have g2 : decide ((ch : Int) > b) = false := decide_eq_false (by have := hki.2.2.1 hs; rw [hch] at this; dsimp only at this; omega)
              rw [hml] at c14
              rw [hch] at c15
              have HFS := Lib.hid (show fc ≠ 0 → sb = true ∧ L1.length = ml from fun h => by
                rcases hst with ⟨_, h2⟩ | ⟨h1, _⟩
                · exact ⟨hsb h2, by rw [← h2]; exact hml⟩
                · exact absurd h1 h)
              have hwi : wrap64 ((i : Int) + 1) = ((i + 1 : Nat) : Int) := w64_succ' i (by omega)
              clear hk b14 b15 b16 hbl hDf hSn hSy hSlt seq hrc hrow11 hown11 a1 a2 ht11 hT11 b7 b10 b12 b13 hd11 hB11 hp1 hp2 hb2 hp1l hp2l hb2l hHG hs8 hTs hq hml2 hne hib hlX x7 x10 x13 hst hki hml hch hsb c2 c3 c4 c5 hD c7
              by_cases hf : fc = 0
              · have v1 : (fc != 0) = false := by simpa using hf
                clear hf
                go_wp2
                have hib := HIB.out
                have hnw := HNW.out
                have hn5 := HN5.out
                refine ⟨?_, by simp [intOf]; omega⟩
                rw [HI.out]
                refine ⟨D2 :: D1 :: Ds, ?_⟩
                (repeat apply Exists.intro)
                exact ⟨⟨i + 1, M, n5, now2, now2, by go_num, by omega, by omega, hn5, hnw.2.1, (by have := hnw.2.2.1; omega), Int.le_refl _, HTX, HKM, HX7, HOX, HBX, HMX⟩, rfl⟩
              · have v1 : (fc != 0) = true := by simpa using hf
                obtain ⟨hsb, hle⟩ := HFS.out hf
                subst hsb
                rw [hle] at c10
                have v2 : ((ml : Int) != (ml : Int)) = false := by simp
                clear hf hle
                go_wp2
                have hib := HIB.out
                have hnw := HNW.out
                have hn5 := HN5.out
                refine ⟨?_, by simp [intOf]; omega⟩
                rw [HI.out]
                refine ⟨D2 :: D1 :: Ds, ?_⟩
                (repeat apply Exists.intro)
                exact ⟨⟨i + 1, M, n5, now2, now2, by go_num, by omega, by omega, hn5, hnw.2.1, (by have := hnw.2.2.1; omega), Int.le_refl _, HTX, HKM, HX7, HOX, HBX, HMX⟩, rfl⟩
      · have b2 : decide ((i : Int) < 100) = false := decide_eq_false (by omega)
        have BR2 := Lib.hid (show Boxed wr W0.heap.size 4 (.bool false) from (HBr.out.block _ (by have := HS2.out; omega)).trans HBR.out)
        have c6 := BR2.out.cell
        have f6 := BR2.out.frozen
        go_wp2
        have hs2 := HS2.out
        have hmk := HMk.out
        refine leaves_marks Ds _ hmk.1 (fun D hD => (KeepsOthers.setCell wr ⟨W0.heap.size, 0, none⟩ (.bool true)).same D _ (hmk.2 D hD).2.2 rfl) (fun w' hw' => ?_)
        have c6' : Boxed w' W0.heap.size 4 (.bool true) := (hw'.2.2.2.2 _ (fun h => by have := (hmk.2 _ h).1; omega)).trans (BR2.out.set (.bool true))
        have c6'' := c6'.cell
        refine ⟨.bool true, ?_, rfl, ((HBW.out.trans (HBr.out.mono (by omega))).setCell (p := ⟨W0.heap.size, 0, none⟩) (by show w.heap.size ≤ W0.heap.size; omega) _).trans (SameB.below hw' (fun D hD => by have := (hmk.2 D hD).1; omega))⟩
        simp [results, Try.f3, go_sem, c6'']
    · have b1 : decide ((i : Int) < (n : Int)) = false := decide_eq_false (by omega)
      have BR2 := Lib.hid (show Boxed wr W0.heap.size 4 (.bool false) from (HBr.out.block _ (by have := HS2.out; omega)).trans HBR.out)
      have c6 := BR2.out.cell
      have f6 := BR2.out.frozen
      go_wp2
      have hs2 := HS2.out
      have hmk := HMk.out
      refine leaves_marks Ds _ hmk.1 (fun D hD => (KeepsOthers.setCell wr ⟨W0.heap.size, 0, none⟩ (.bool true)).same D _ (hmk.2 D hD).2.2 rfl) (fun w' hw' => ?_)
      have c6' : Boxed w' W0.heap.size 4 (.bool true) := (hw'.2.2.2.2 _ (fun h => by have := (hmk.2 _ h).1; omega)).trans (BR2.out.set (.bool true))
      have c6'' := c6'.cell
      refine ⟨.bool true, ?_, rfl, ((HBW.out.trans (HBr.out.mono (by omega))).setCell (p := ⟨W0.heap.size, 0, none⟩) (by show w.heap.size ≤ W0.heap.size; omega) _).trans (SameB.below hw' (fun D hD => by have := (hmk.2 D hD).1; omega))⟩
      simp [results, Try.f3, go_sem, c6'']
end Go.Proofs.Ytglpjoijkinlbaa.Rv
