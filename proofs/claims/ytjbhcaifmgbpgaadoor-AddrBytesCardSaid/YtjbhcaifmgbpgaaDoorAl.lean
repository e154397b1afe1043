/-
  addr: the document's Text. Conditions: as the theorems state them.
-/
import Derived.Test.YtjbhcaifmgbpgaaDoorAk
import Derived.Deep.RegionHeld3
namespace Go.Proofs.YtjbhcaifmgbpgaaDoor.Ad
open Go Go.RowKit Go.Shelf Go.Proofs.YtjbhcaifmgbpgaaDoorW.PrintWords Go.Proofs.YtjbhcaifmgbpgaaDoorW.PrintLast Go.Proofs.YtjbhcaifmgbpgaaDoorW.PrintMore
set_option linter.unusedVariables false
set_option linter.unusedSimpArgs false
attribute [local go_sem] Oper.semAt_some
theorem digitsI_calls (w : World) (n : Int) (h0 : 0 ≤ n) (h1 : n ≤ 9223372036854775807) : Calls Tryd.prog 16 #[.int .i64 n] w fun e w' => e = .returned (.string (mk (dI n))) ∧ Below w.heap.size w w' := by
  obtain ⟨u, rfl⟩ : ∃ u : Nat, n = u := ⟨n.toNat, by omega⟩
  exact digits_calls w u (by omega)
def SSt (w2 : World) (g b : Nat) (c0 c1 c2 c3 h p id : Int) (via : Bool) (V : World) : Prop := Below w2.heap.size w2 V ∧ V.cell? ⟨g, 0, none⟩ = some (.int .u8 c0) ∧ V.cell? ⟨g, 1, none⟩ = some (.int .u8 c1) ∧ V.cell? ⟨g, 2, none⟩ = some (.int .u8 c2) ∧ V.cell? ⟨g, 3, none⟩ = some (.int .u8 c3) ∧ V.cell? ⟨b, 0, none⟩ = some (.int .u32 h) ∧ V.cell? ⟨b, 1, none⟩ = some (.int .i64 p) ∧ V.cell? ⟨b, 2, none⟩ = some (.int .i64 id) ∧ V.cell? ⟨b, 3, none⟩ = some (.bool via)
theorem SSt.below {w2 : World} {g b : Nat} {c0 c1 c2 c3 h p id : Int} {via : Bool} {V V' : World} (hs : SSt w2 g b c0 c1 c2 c3 h p id via V) (hb : Below V.heap.size V V') : SSt w2 g b c0 c1 c2 c3 h p id via V' := by
  obtain ⟨q, q0, q1, q2, q3, q4, q5, q6, q7⟩ := hs
  have kk : ∀ {a : Addr} {x : Value}, V.cell? a = some x → V'.cell? a = some x := fun hx => (hb.cell (World.block_lt_of_cell? _ _ hx)).trans hx
  exact ⟨q.trans (hb.mono q.size), kk q0, kk q1, kk q2, kk q3, kk q4, kk q5, kk q6, kk q7⟩
set_option maxRecDepth 100000 in
set_option maxHeartbeats 8000000 in
theorem reftext_yes (w : World) (h p id : Int) (via : Bool) (hh : U32 h) (hm : mayP (h, p, id, via) = true) : Calls Tryd.prog 11 #[.agg #[.int .u32 h, .int .i64 p, .int .i64 id, .bool via]] w fun e w' => e = .returned (.string (mk (textV (h, p, id, via)))) ∧ Below w.heap.size w w' := by
  have hmm := (mayP_iff _).1 hm
  dsimp only at hmm
  obtain ⟨W, hW⟩ : ∃ W, w.alloc (.cells #[.int .u32 h, .int .i64 p, .int .i64 id, .bool via] 26) = W := ⟨_, rfl⟩
  have hb : Below w.heap.size w W := by rw [← hW]; exact (Below.refl _ _).alloc (Nat.le_refl _) _
  have hc : W.heap[w.heap.size]? = some (.cells #[.int .u32 h, .int .i64 p, .int .i64 id, .bool via] 26 (0, 0)) := by rw [← hW]; exact new_cellsN _ _ _
  have HB := Lib.hid hb
  have PC := Lib.hid (fun (V : World) (hV : Below W.heap.size W V) => (show V.cell? ⟨w.heap.size, 0, none⟩ = some (.int .u32 h) ∧ V.cell? ⟨w.heap.size, 1, none⟩ = some (.int .i64 p) ∧ V.cell? ⟨w.heap.size, 2, none⟩ = some (.int .i64 id) ∧ V.cell? ⟨w.heap.size, 3, none⟩ = some (.bool via) from by
    have hv := (hV.block w.heap.size (Array.getElem?_eq_some_iff.1 hc).1).trans hc
    exact ⟨cell_cellsN hv 0 (by simp), cell_cellsN hv 1 (by simp), cell_cellsN hv 2 (by simp), cell_cellsN hv 3 (by simp)⟩))
  have K := refplace_calls W h p id via hh.1
  rw [hm] at K
  have K := Lib.hid K
  have HH := Lib.hid hh
  obtain ⟨d0, d1, d2, d3⟩ := PC.out W (Below.refl _ _)
  have hma : mayA h p = true := (mayA_iff h p).2 hmm.1
  have HMM := Lib.hid hmm
  have HMA := Lib.hid hma
  clear hb hc hm hmm hma hh
  go_enter Tryd.func11, Tryd.ntmps11
  go_upto_region 3 with (go_at_call 13; refine K.out.mono ?_; rintro e w1 ⟨rfl, hb1⟩; have HB1 := Lib.hid hb1; clear hb1)
  obtain ⟨d0, d1, d2, d3⟩ := PC.out w1 HB1.out
  go_upto_region 4 with (go_at_call 24; refine (refbytes_yes w1 h p HH.out HMA.out).mono ?_; rintro e w2 ⟨g, rfl, hg, hgc, hb2⟩; have HG := Lib.hid hgc; have HB2 := Lib.hid (HB1.out.trans (hb2.mono HB1.out.size)); clear hg hgc hb2)
  clear hW d0 d1 d2 d3
  obtain ⟨e0, e1, e2, e3⟩ := PC.out w2 HB2.out
  have y0 := bytes_at HG.out 0 (by decide)
  have y1 := bytes_at HG.out 1 (by decide)
  have y2 := bytes_at HG.out 2 (by decide)
  have y3 := bytes_at HG.out 3 (by decide)
  have i0 := bytesH_in HH.out 0
  have i1 := bytesH_in HH.out 1
  have i2 := bytesH_in HH.out 2
  have i3 := bytesH_in HH.out 3
  have hmm := HMM.out
  obtain ⟨c0, h0⟩ : ∃ c, bytesH h 0 = c := ⟨_, rfl⟩
  obtain ⟨c1, h1⟩ : ∃ c, bytesH h 1 = c := ⟨_, rfl⟩
  obtain ⟨c2, h2⟩ : ∃ c, bytesH h 2 = c := ⟨_, rfl⟩
  obtain ⟨c3, h3⟩ : ∃ c, bytesH h 3 = c := ⟨_, rfl⟩
  rw [h0] at y0 i0
  rw [h1] at y1 i1
  rw [h2] at y2 i2
  rw [h3] at y3 i3
  have HHS : Hid (hostS h = dI c0 ++ 46 :: (dI c1 ++ 46 :: (dI c2 ++ 46 :: dI c3))) := Lib.hid (by rw [← h0, ← h1, ← h2, ← h3]; rfl)
  clear h0 h1 h2 h3
  have l0 := dI_len i0.2 (by decide)
  have l1 := dI_len i1.2 (by decide)
  have l2 := dI_len i2.2 (by decide)
  have l3 := dI_len i3.2 (by decide)
  have hpl := dI_len hmm.1.2.2 (by decide)
  have hil := dI_len hmm.2.2.1 (by decide)
  simp only [Int.reduceToNat] at l0 l1 l2 l3 hpl hil
  have KD := Lib.hid digitsI_calls
  have dot : (⟨#[46]⟩ : ByteArray) = mk [46] := rfl
  obtain ⟨P1, n1⟩ : ∃ P, ipW ++ dI c0 = P := ⟨_, rfl⟩
  obtain ⟨P2, n2⟩ : ∃ P, P1 ++ [46] = P := ⟨_, rfl⟩
  obtain ⟨P3, n3⟩ : ∃ P, P2 ++ dI c1 = P := ⟨_, rfl⟩
  obtain ⟨P4, n4⟩ : ∃ P, P3 ++ [46] = P := ⟨_, rfl⟩
  obtain ⟨P5, n5⟩ : ∃ P, P4 ++ dI c2 = P := ⟨_, rfl⟩
  obtain ⟨P6, n6⟩ : ∃ P, P5 ++ [46] = P := ⟨_, rfl⟩
  obtain ⟨P7, n7⟩ : ∃ P, P6 ++ dI c3 = P := ⟨_, rfl⟩
  obtain ⟨P8, n8⟩ : ∃ P, P7 ++ udW = P := ⟨_, rfl⟩
  obtain ⟨P9, n9⟩ : ∃ P, P8 ++ dI p = P := ⟨_, rfl⟩
  have li : ipW.length = 5 := rfl
  have lu : udW.length = 5 := rfl
  have k1 : P1.length ≤ 300 := by rw [← n1, List.length_append]; omega
  have k2 : P2.length ≤ 301 := by rw [← n2, List.length_append, List.length_singleton]; omega
  have k3 : P3.length ≤ 600 := by rw [← n3, List.length_append]; omega
  have k4 : P4.length ≤ 601 := by rw [← n4, List.length_append, List.length_singleton]; omega
  have k5 : P5.length ≤ 900 := by rw [← n5, List.length_append]; omega
  have k6 : P6.length ≤ 901 := by rw [← n6, List.length_append, List.length_singleton]; omega
  have k7 : P7.length ≤ 1200 := by rw [← n7, List.length_append]; omega
  have k8 : P8.length ≤ 1205 := by rw [← n8, List.length_append]; omega
  have k9 : P9.length ≤ 70000 := by rw [← n9, List.length_append]; omega
  have z1 : ¬ 9223372036854775807 < (⟨#[47, 105, 112, 52, 47]⟩ : ByteArray).size + (mk (dI c0)).size := small2 (a := ipW) (b := dI c0) (by decide) (by omega)
  have z2 : ¬ 9223372036854775807 < (mk P1).size + (⟨#[46]⟩ : ByteArray).size := small2 (a := P1) (b := [46]) (by omega) (by decide)
  have z3 := small2 (a := P2) (b := dI c1) (by omega) (by omega)
  have z4 : ¬ 9223372036854775807 < (mk P3).size + (⟨#[46]⟩ : ByteArray).size := small2 (a := P3) (b := [46]) (by omega) (by decide)
  have z5 := small2 (a := P4) (b := dI c2) (by omega) (by omega)
  have z6 : ¬ 9223372036854775807 < (mk P5).size + (⟨#[46]⟩ : ByteArray).size := small2 (a := P5) (b := [46]) (by omega) (by decide)
  have z7 := small2 (a := P6) (b := dI c3) (by omega) (by omega)
  have z8 : ¬ 9223372036854775807 < (mk P7).size + (⟨#[47, 117, 100, 112, 47]⟩ : ByteArray).size := small2 (a := P7) (b := udW) (by omega) (by decide)
  have z9 := small2 (a := P8) (b := dI p) (by omega) (by omega)
  have z1b : ¬ 9223372036854775807 < 5 + (mk (dI c0)).size := z1
  have z2b : ¬ 9223372036854775807 < (mk P1).size + 1 := z2
  have z4b : ¬ 9223372036854775807 < (mk P3).size + 1 := z4
  have z6b : ¬ 9223372036854775807 < (mk P5).size + 1 := z6
  have z8b : ¬ 9223372036854775807 < (mk P7).size + 5 := z8
  have a1 : (⟨#[47, 105, 112, 52, 47]⟩ : ByteArray) ++ mk (dI c0) = mk P1 := by rw [show (⟨#[47, 105, 112, 52, 47]⟩ : ByteArray) = mk ipW from rfl, mk_app, n1]
  have a2 : mk P1 ++ (⟨#[46]⟩ : ByteArray) = mk P2 := by rw [dot, mk_app, n2]
  have a3 : mk P2 ++ mk (dI c1) = mk P3 := by rw [mk_app, n3]
  have a4 : mk P3 ++ (⟨#[46]⟩ : ByteArray) = mk P4 := by rw [dot, mk_app, n4]
  have a5 : mk P4 ++ mk (dI c2) = mk P5 := by rw [mk_app, n5]
  have a6 : mk P5 ++ (⟨#[46]⟩ : ByteArray) = mk P6 := by rw [dot, mk_app, n6]
  have a7 : mk P6 ++ mk (dI c3) = mk P7 := by rw [mk_app, n7]
  have a8 : mk P7 ++ (⟨#[47, 117, 100, 112, 47]⟩ : ByteArray) = mk P8 := by rw [show (⟨#[47, 117, 100, 112, 47]⟩ : ByteArray) = mk udW from rfl, mk_app, n8]
  have a9 : mk P8 ++ mk (dI p) = mk P9 := by rw [mk_app, n9]
  have HP9 : Hid (P9 = ipW ++ (hostS h ++ (udW ++ dI p))) := Lib.hid (by rw [← n9, ← n8, ← n7, ← n6, ← n5, ← n4, ← n3, ← n2, ← n1, HHS.out]; simp)
  have HK9 := Lib.hid k9
  have w0 : wrap64 c0 = c0 := by unfold wrap64; omega
  have w1' : wrap64 c1 = c1 := by unfold wrap64; omega
  have w2' : wrap64 c2 = c2 := by unfold wrap64; omega
  have w3' : wrap64 c3 = c3 := by unfold wrap64; omega
  have v0 : IntKind.i64.wrap c0 = c0 := by rw [IntKind.wrap_i64]; unfold wrap64 at w0; omega
  have v1 : IntKind.i64.wrap c1 = c1 := by rw [IntKind.wrap_i64]; unfold wrap64 at w1'; omega
  have v2 : IntKind.i64.wrap c2 = c2 := by rw [IntKind.wrap_i64]; unfold wrap64 at w2'; omega
  have v3 : IntKind.i64.wrap c3 = c3 := by rw [IntKind.wrap_i64]; unfold wrap64 at w3'; omega
  have hp0 : 0 ≤ p ∧ p ≤ 65535 := by omega
  clear n1 n2 n3 n4 n5 n6 n7 n8 n9 k1 k2 k3 k4 k5 k6 k7 k8 k9 l0 l1 l2 l3 hpl hil li lu dot hmm
  have hS0 : SSt w2 g w.heap.size c0 c1 c2 c3 h p id via w2.drew := ⟨drew_below w2, y0, y1, y2, y3, e0, e1, e2, e3⟩
  clear y0 y1 y2 y3 e0 e1 e2 e3
  refine wp_region_held_drew (S := SSt w2 g w.heap.size c0 c1 c2 c3 h p id via) (by kernel_rfl) ?_ (fun hHeld => ?_)
  · exact hS0
  refine wpAnyH_take (i := 0) (v := ?_) rfl (by kernel_rfl) (by kernel_rfl) (by kernel_rfl) (fun _ _ _ h => h) (Or.inl ⟨by rfl, ?_⟩) (by assumption) ?_
  rotate_left
  · (intro w hSw; unfold SSt at hSw; obtain ⟨_, q0, q1, q2, q3, q4, q5, q6, q7⟩ := hSw; go_simp; try with_reducible rfl)
  try simp only [Act.put, List.setIfInBounds_toArray, List.set_cons_zero, List.set_cons_succ, List.getElem_toArray, List.getElem_cons_succ, List.getElem_cons_zero]
  refine wpAnyH_take (i := 1) (v := ?_) rfl (by kernel_rfl) (by kernel_rfl) (by kernel_rfl) (fun _ _ _ h => h) (Or.inl ⟨by rfl, ?_⟩) (by assumption) ?_
  rotate_left
  · (intro w hSw; unfold SSt at hSw; obtain ⟨_, q0, q1, q2, q3, q4, q5, q6, q7⟩ := hSw; go_simp; try with_reducible rfl)
  try simp only [Act.put, List.setIfInBounds_toArray, List.set_cons_zero, List.set_cons_succ, List.getElem_toArray, List.getElem_cons_succ, List.getElem_cons_zero]
  refine wpAnyH_take (i := 2) (v := ?_) rfl (by kernel_rfl) (by kernel_rfl) (by kernel_rfl) (fun _ _ _ h => h) (Or.inl ⟨by rfl, ?_⟩) (by assumption) ?_
  rotate_left
  · (intro w hSw; unfold SSt at hSw; obtain ⟨_, q0, q1, q2, q3, q4, q5, q6, q7⟩ := hSw; go_simp; try with_reducible rfl)
  try simp only [Act.put, List.setIfInBounds_toArray, List.set_cons_zero, List.set_cons_succ, List.getElem_toArray, List.getElem_cons_succ, List.getElem_cons_zero]
  refine wpAnyH_take (i := 3) (v := ?_) rfl (by kernel_rfl) (by kernel_rfl) (by kernel_rfl) (fun _ _ _ h => h) (Or.inl ⟨by rfl, ?_⟩) (by assumption) ?_
  rotate_left
  · (intro w hSw; unfold SSt at hSw; obtain ⟨_, q0, q1, q2, q3, q4, q5, q6, q7⟩ := hSw; go_simp; try with_reducible rfl)
  try simp only [Act.put, List.setIfInBounds_toArray, List.set_cons_zero, List.set_cons_succ, List.getElem_toArray, List.getElem_cons_succ, List.getElem_cons_zero]
  refine wpAnyH_take (i := 7) (v := ?_) rfl (by kernel_rfl) (by kernel_rfl) (by kernel_rfl) (fun _ _ _ h => h) (Or.inl ⟨by rfl, ?_⟩) (by assumption) ?_
  rotate_left
  · (intro w hSw; unfold SSt at hSw; obtain ⟨_, q0, q1, q2, q3, q4, q5, q6, q7⟩ := hSw; go_simp; try with_reducible rfl)
  try simp only [Act.put, List.setIfInBounds_toArray, List.set_cons_zero, List.set_cons_succ, List.getElem_toArray, List.getElem_cons_succ, List.getElem_cons_zero]
  refine wpAnyH_take (i := 8) (v := ?_) rfl (by kernel_rfl) (by kernel_rfl) (by kernel_rfl) (fun _ _ _ h => h) (Or.inl ⟨by rfl, ?_⟩) (by assumption) ?_
  rotate_left
  · (intro w hSw; unfold SSt at hSw; obtain ⟨_, q0, q1, q2, q3, q4, q5, q6, q7⟩ := hSw; go_simp; try with_reducible rfl)
  try simp only [Act.put, List.setIfInBounds_toArray, List.set_cons_zero, List.set_cons_succ, List.getElem_toArray, List.getElem_cons_succ, List.getElem_cons_zero]
  refine wpAnyH_take (i := 9) (v := ?_) rfl (by kernel_rfl) (by kernel_rfl) (by kernel_rfl) (fun _ _ _ h => h) (Or.inl ⟨by rfl, ?_⟩) (by assumption) ?_
  rotate_left
  · (intro w hSw; unfold SSt at hSw; obtain ⟨_, q0, q1, q2, q3, q4, q5, q6, q7⟩ := hSw; go_simp; try with_reducible rfl)
  try simp only [Act.put, List.setIfInBounds_toArray, List.set_cons_zero, List.set_cons_succ, List.getElem_toArray, List.getElem_cons_succ, List.getElem_cons_zero]
  refine wpAnyH_take (i := 10) (v := ?_) rfl (by kernel_rfl) (by kernel_rfl) (by kernel_rfl) (fun _ _ _ h => h) (Or.inl ⟨by rfl, ?_⟩) (by assumption) ?_
  rotate_left
  · (intro w hSw; unfold SSt at hSw; obtain ⟨_, q0, q1, q2, q3, q4, q5, q6, q7⟩ := hSw; go_simp; try with_reducible rfl)
  try simp only [Act.put, List.setIfInBounds_toArray, List.set_cons_zero, List.set_cons_succ, List.getElem_toArray, List.getElem_cons_succ, List.getElem_cons_zero]
  refine wpAnyH_take (i := 14) (v := ?_) rfl (by kernel_rfl) (by kernel_rfl) (by kernel_rfl) (fun _ _ _ h => h) (Or.inl ⟨by rfl, ?_⟩) (by assumption) ?_
  rotate_left
  · (intro w hSw; unfold SSt at hSw; obtain ⟨_, q0, q1, q2, q3, q4, q5, q6, q7⟩ := hSw; go_simp; try with_reducible rfl)
  try simp only [Act.put, List.setIfInBounds_toArray, List.set_cons_zero, List.set_cons_succ, List.getElem_toArray, List.getElem_cons_succ, List.getElem_cons_zero]
  refine wpAnyH_take (i := 15) (v := ?_) rfl (by kernel_rfl) (by kernel_rfl) (by kernel_rfl) (fun _ _ _ h => h) (Or.inl ⟨by rfl, ?_⟩) (by assumption) ?_
  rotate_left
  · (intro w hSw; unfold SSt at hSw; obtain ⟨_, q0, q1, q2, q3, q4, q5, q6, q7⟩ := hSw; go_simp; try with_reducible rfl)
  try simp only [Act.put, List.setIfInBounds_toArray, List.set_cons_zero, List.set_cons_succ, List.getElem_toArray, List.getElem_cons_succ, List.getElem_cons_zero]
  refine wpAnyH_take (i := 16) (v := ?_) rfl (by kernel_rfl) (by kernel_rfl) (by kernel_rfl) (fun _ _ _ h => h) (Or.inl ⟨by rfl, ?_⟩) (by assumption) ?_
  rotate_left
  · (intro w hSw; unfold SSt at hSw; obtain ⟨_, q0, q1, q2, q3, q4, q5, q6, q7⟩ := hSw; go_simp; try with_reducible rfl)
  try simp only [Act.put, List.setIfInBounds_toArray, List.set_cons_zero, List.set_cons_succ, List.getElem_toArray, List.getElem_cons_succ, List.getElem_cons_zero]
  refine wpAnyH_take (i := 17) (v := ?_) rfl (by kernel_rfl) (by kernel_rfl) (by kernel_rfl) (fun _ _ _ h => h) (Or.inl ⟨by rfl, ?_⟩) (by assumption) ?_
  rotate_left
  · (intro w hSw; unfold SSt at hSw; obtain ⟨_, q0, q1, q2, q3, q4, q5, q6, q7⟩ := hSw; go_simp; try with_reducible rfl)
  try simp only [Act.put, List.setIfInBounds_toArray, List.set_cons_zero, List.set_cons_succ, List.getElem_toArray, List.getElem_cons_succ, List.getElem_cons_zero]
  refine wpAnyH_take (i := 21) (v := ?_) rfl (by kernel_rfl) (by kernel_rfl) (by kernel_rfl) (fun _ _ _ h => h) (Or.inl ⟨by rfl, ?_⟩) (by assumption) ?_
  rotate_left
  · (intro w hSw; unfold SSt at hSw; obtain ⟨_, q0, q1, q2, q3, q4, q5, q6, q7⟩ := hSw; go_simp; try with_reducible rfl)
  try simp only [Act.put, List.setIfInBounds_toArray, List.set_cons_zero, List.set_cons_succ, List.getElem_toArray, List.getElem_cons_succ, List.getElem_cons_zero]
  refine wpAnyH_take (i := 22) (v := ?_) rfl (by kernel_rfl) (by kernel_rfl) (by kernel_rfl) (fun _ _ _ h => h) (Or.inl ⟨by rfl, ?_⟩) (by assumption) ?_
  rotate_left
  · (intro w hSw; unfold SSt at hSw; obtain ⟨_, q0, q1, q2, q3, q4, q5, q6, q7⟩ := hSw; go_simp; try with_reducible rfl)
  try simp only [Act.put, List.setIfInBounds_toArray, List.set_cons_zero, List.set_cons_succ, List.getElem_toArray, List.getElem_cons_succ, List.getElem_cons_zero]
  refine wpAnyH_take (i := 23) (v := ?_) rfl (by kernel_rfl) (by kernel_rfl) (by kernel_rfl) (fun _ _ _ h => h) (Or.inl ⟨by rfl, ?_⟩) (by assumption) ?_
  rotate_left
  · (intro w hSw; unfold SSt at hSw; obtain ⟨_, q0, q1, q2, q3, q4, q5, q6, q7⟩ := hSw; go_simp; try with_reducible rfl)
  try simp only [Act.put, List.setIfInBounds_toArray, List.set_cons_zero, List.set_cons_succ, List.getElem_toArray, List.getElem_cons_succ, List.getElem_cons_zero]
  refine wpAnyH_take (i := 24) (v := ?_) rfl (by kernel_rfl) (by kernel_rfl) (by kernel_rfl) (fun _ _ _ h => h) (Or.inl ⟨by rfl, ?_⟩) (by assumption) ?_
  rotate_left
  · (intro w hSw; unfold SSt at hSw; obtain ⟨_, q0, q1, q2, q3, q4, q5, q6, q7⟩ := hSw; go_simp; try with_reducible rfl)
  try simp only [Act.put, List.setIfInBounds_toArray, List.set_cons_zero, List.set_cons_succ, List.getElem_toArray, List.getElem_cons_succ, List.getElem_cons_zero]
  refine wpAnyH_take (i := 28) (v := ?_) rfl (by kernel_rfl) (by kernel_rfl) (by kernel_rfl) (fun _ _ _ h => h) (Or.inl ⟨by rfl, ?_⟩) (by assumption) ?_
  rotate_left
  · (intro w hSw; unfold SSt at hSw; obtain ⟨_, q0, q1, q2, q3, q4, q5, q6, q7⟩ := hSw; go_simp; try with_reducible rfl)
  try simp only [Act.put, List.setIfInBounds_toArray, List.set_cons_zero, List.set_cons_succ, List.getElem_toArray, List.getElem_cons_succ, List.getElem_cons_zero]
  refine wpAnyH_take (i := 29) (v := ?_) rfl (by kernel_rfl) (by kernel_rfl) (by kernel_rfl) (fun _ _ _ h => h) (Or.inl ⟨by rfl, ?_⟩) (by assumption) ?_
  rotate_left
  · (intro w hSw; unfold SSt at hSw; obtain ⟨_, q0, q1, q2, q3, q4, q5, q6, q7⟩ := hSw; go_simp; try with_reducible rfl)
  try simp only [Act.put, List.setIfInBounds_toArray, List.set_cons_zero, List.set_cons_succ, List.getElem_toArray, List.getElem_cons_succ, List.getElem_cons_zero]
  refine wpAnyH_take (i := 30) (v := ?_) rfl (by kernel_rfl) (by kernel_rfl) (by kernel_rfl) (fun _ _ _ h => h) (Or.inl ⟨by rfl, ?_⟩) (by assumption) ?_
  rotate_left
  · (intro w hSw; unfold SSt at hSw; obtain ⟨_, q0, q1, q2, q3, q4, q5, q6, q7⟩ := hSw; go_simp; try with_reducible rfl)
  try simp only [Act.put, List.setIfInBounds_toArray, List.set_cons_zero, List.set_cons_succ, List.getElem_toArray, List.getElem_cons_succ, List.getElem_cons_zero]
  refine wpAnyH_ready (rs := [4]) (by kernel_rfl) (by simp) ?_
  refine AllReadyH.cons rfl (fun K hK => ?_) AllReadyH.nil
  go_simp
  go_at_call 16; refine (KD.out _ _ (by omega) (by omega)).mono ?_; rintro e wn ⟨rfl, hbn⟩; have hSN := SSt.below hHeld hbn; clear hbn
  refine hK.out _ _ ?_ (fun hHeld => ?_)
  · exact hSN
  clear hK K
  try simp only [Act.put, List.setIfInBounds_toArray, List.set_cons_zero, List.set_cons_succ, List.getElem_toArray, List.getElem_cons_succ, List.getElem_cons_zero]
  refine wpAnyH_take (i := 5) (v := ?_) rfl (by kernel_rfl) (by kernel_rfl) (by kernel_rfl) (fun _ _ _ h => h) (Or.inl ⟨by rfl, ?_⟩) (by assumption) ?_
  rotate_left
  · (intro w hSw; unfold SSt at hSw; obtain ⟨_, q0, q1, q2, q3, q4, q5, q6, q7⟩ := hSw; go_simp; try with_reducible rfl)
  try simp only [Act.put, List.setIfInBounds_toArray, List.set_cons_zero, List.set_cons_succ, List.getElem_toArray, List.getElem_cons_succ, List.getElem_cons_zero]
  refine wpAnyH_take (i := 6) (v := ?_) rfl (by kernel_rfl) (by kernel_rfl) (by kernel_rfl) (fun _ _ _ h => h) (Or.inl ⟨by rfl, ?_⟩) (by assumption) ?_
  rotate_left
  · (intro w hSw; unfold SSt at hSw; obtain ⟨_, q0, q1, q2, q3, q4, q5, q6, q7⟩ := hSw; go_simp; try with_reducible rfl)
  try simp only [Act.put, List.setIfInBounds_toArray, List.set_cons_zero, List.set_cons_succ, List.getElem_toArray, List.getElem_cons_succ, List.getElem_cons_zero]
  refine wpAnyH_ready (rs := [11]) (by kernel_rfl) (by simp) ?_
  refine AllReadyH.cons rfl (fun K hK => ?_) AllReadyH.nil
  go_simp
  go_at_call 16; refine (KD.out _ _ (by omega) (by omega)).mono ?_; rintro e wn ⟨rfl, hbn⟩; have hSN := SSt.below hHeld hbn; clear hbn
  refine hK.out _ _ ?_ (fun hHeld => ?_)
  · exact hSN
  clear hK K
  try simp only [Act.put, List.setIfInBounds_toArray, List.set_cons_zero, List.set_cons_succ, List.getElem_toArray, List.getElem_cons_succ, List.getElem_cons_zero]
  refine wpAnyH_take (i := 12) (v := ?_) rfl (by kernel_rfl) (by kernel_rfl) (by kernel_rfl) (fun _ _ _ h => h) (Or.inl ⟨by rfl, ?_⟩) (by assumption) ?_
  rotate_left
  · (intro w hSw; unfold SSt at hSw; obtain ⟨_, q0, q1, q2, q3, q4, q5, q6, q7⟩ := hSw; go_simp; try with_reducible rfl)
  try simp only [Act.put, List.setIfInBounds_toArray, List.set_cons_zero, List.set_cons_succ, List.getElem_toArray, List.getElem_cons_succ, List.getElem_cons_zero]
  refine wpAnyH_take (i := 13) (v := ?_) rfl (by kernel_rfl) (by kernel_rfl) (by kernel_rfl) (fun _ _ _ h => h) (Or.inl ⟨by rfl, ?_⟩) (by assumption) ?_
  rotate_left
  · (intro w hSw; unfold SSt at hSw; obtain ⟨_, q0, q1, q2, q3, q4, q5, q6, q7⟩ := hSw; go_simp; try with_reducible rfl)
  try simp only [Act.put, List.setIfInBounds_toArray, List.set_cons_zero, List.set_cons_succ, List.getElem_toArray, List.getElem_cons_succ, List.getElem_cons_zero]
  refine wpAnyH_ready (rs := [18]) (by kernel_rfl) (by simp) ?_
  refine AllReadyH.cons rfl (fun K hK => ?_) AllReadyH.nil
  go_simp
  go_at_call 16; refine (KD.out _ _ (by omega) (by omega)).mono ?_; rintro e wn ⟨rfl, hbn⟩; have hSN := SSt.below hHeld hbn; clear hbn
  refine hK.out _ _ ?_ (fun hHeld => ?_)
  · exact hSN
  clear hK K
  try simp only [Act.put, List.setIfInBounds_toArray, List.set_cons_zero, List.set_cons_succ, List.getElem_toArray, List.getElem_cons_succ, List.getElem_cons_zero]
  refine wpAnyH_take (i := 19) (v := ?_) rfl (by kernel_rfl) (by kernel_rfl) (by kernel_rfl) (fun _ _ _ h => h) (Or.inl ⟨by rfl, ?_⟩) (by assumption) ?_
  rotate_left
  · (intro w hSw; unfold SSt at hSw; obtain ⟨_, q0, q1, q2, q3, q4, q5, q6, q7⟩ := hSw; go_simp; try with_reducible rfl)
  try simp only [Act.put, List.setIfInBounds_toArray, List.set_cons_zero, List.set_cons_succ, List.getElem_toArray, List.getElem_cons_succ, List.getElem_cons_zero]
  refine wpAnyH_take (i := 20) (v := ?_) rfl (by kernel_rfl) (by kernel_rfl) (by kernel_rfl) (fun _ _ _ h => h) (Or.inl ⟨by rfl, ?_⟩) (by assumption) ?_
  rotate_left
  · (intro w hSw; unfold SSt at hSw; obtain ⟨_, q0, q1, q2, q3, q4, q5, q6, q7⟩ := hSw; go_simp; try with_reducible rfl)
  try simp only [Act.put, List.setIfInBounds_toArray, List.set_cons_zero, List.set_cons_succ, List.getElem_toArray, List.getElem_cons_succ, List.getElem_cons_zero]
  refine wpAnyH_ready (rs := [25]) (by kernel_rfl) (by simp) ?_
  refine AllReadyH.cons rfl (fun K hK => ?_) AllReadyH.nil
  go_simp
  go_at_call 16; refine (KD.out _ _ (by omega) (by omega)).mono ?_; rintro e wn ⟨rfl, hbn⟩; have hSN := SSt.below hHeld hbn; clear hbn
  refine hK.out _ _ ?_ (fun hHeld => ?_)
  · exact hSN
  clear hK K
  try simp only [Act.put, List.setIfInBounds_toArray, List.set_cons_zero, List.set_cons_succ, List.getElem_toArray, List.getElem_cons_succ, List.getElem_cons_zero]
  refine wpAnyH_take (i := 26) (v := ?_) rfl (by kernel_rfl) (by kernel_rfl) (by kernel_rfl) (fun _ _ _ h => h) (Or.inl ⟨by rfl, ?_⟩) (by assumption) ?_
  rotate_left
  · (intro w hSw; unfold SSt at hSw; obtain ⟨_, q0, q1, q2, q3, q4, q5, q6, q7⟩ := hSw; go_simp; try with_reducible rfl)
  try simp only [Act.put, List.setIfInBounds_toArray, List.set_cons_zero, List.set_cons_succ, List.getElem_toArray, List.getElem_cons_succ, List.getElem_cons_zero]
  refine wpAnyH_take (i := 27) (v := ?_) rfl (by kernel_rfl) (by kernel_rfl) (by kernel_rfl) (fun _ _ _ h => h) (Or.inl ⟨by rfl, ?_⟩) (by assumption) ?_
  rotate_left
  · (intro w hSw; unfold SSt at hSw; obtain ⟨_, q0, q1, q2, q3, q4, q5, q6, q7⟩ := hSw; go_simp; try with_reducible rfl)
  try simp only [Act.put, List.setIfInBounds_toArray, List.set_cons_zero, List.set_cons_succ, List.getElem_toArray, List.getElem_cons_succ, List.getElem_cons_zero]
  refine wpAnyH_ready (rs := [31]) (by kernel_rfl) (by simp) ?_
  refine AllReadyH.cons rfl (fun K hK => ?_) AllReadyH.nil
  go_simp
  go_at_call 16; refine (KD.out _ _ (by omega) (by omega)).mono ?_; rintro e wn ⟨rfl, hbn⟩; have hSN := SSt.below hHeld hbn; clear hbn
  refine hK.out _ _ ?_ (fun hHeld => ?_)
  · exact hSN
  clear hK K
  try simp only [Act.put, List.setIfInBounds_toArray, List.set_cons_zero, List.set_cons_succ, List.getElem_toArray, List.getElem_cons_succ, List.getElem_cons_zero]
  refine wpAnyH_take (i := 32) (v := ?_) rfl (by kernel_rfl) (by kernel_rfl) (by kernel_rfl) (fun _ _ _ h => h) (Or.inl ⟨by rfl, ?_⟩) (by assumption) ?_
  rotate_left
  · (intro w hSw; unfold SSt at hSw; obtain ⟨_, q0, q1, q2, q3, q4, q5, q6, q7⟩ := hSw; go_simp; try with_reducible rfl)
  try simp only [Act.put, List.setIfInBounds_toArray, List.set_cons_zero, List.set_cons_succ, List.getElem_toArray, List.getElem_cons_succ, List.getElem_cons_zero]
  refine wpAnyH_take (i := 33) (v := ?_) rfl (by kernel_rfl) (by kernel_rfl) (by kernel_rfl) (fun _ _ _ h => h) (Or.inl ⟨by rfl, ?_⟩) (by assumption) ?_
  rotate_left
  · (intro w hSw; unfold SSt at hSw; obtain ⟨_, q0, q1, q2, q3, q4, q5, q6, q7⟩ := hSw; go_simp; try with_reducible rfl)
  try simp only [Act.put, List.setIfInBounds_toArray, List.set_cons_zero, List.set_cons_succ, List.getElem_toArray, List.getElem_cons_succ, List.getElem_cons_zero]
  refine wpAnyH_done (by kernel_rfl) ?_ _
  dsimp only [Exit.then]
  have hh9 := hHeld
  obtain ⟨hwn, _, _, _, _, x0, x1, x2, x3⟩ := hh9
  have HWN := Lib.hid (HB2.out.trans (hwn.mono HB2.out.size))
  obtain ⟨U, hU⟩ : ∃ U, wn = U := ⟨_, rfl⟩
  rw [hU] at x0 x1 x2 x3 HWN ⊢
  have PC2 := Lib.hid (fun (V : World) (hV : Below U.heap.size U V) => PC.out V (HWN.out.trans (hV.mono HWN.out.size)))
  clear z1 z2 z3 z4 z5 z6 z7 z8 z9 z1b z2b z4b z6b z8b a1 a2 a3 a4 a5 a6 a7 a8 a9 hwn hU
  have hfin : ∀ T : Str, (P9 ++ T = textV (h, p, id, via)) ↔ T = tailS (h, p, id, via) := fun T => by
    rw [HP9.out]
    unfold textV
    simp [ipW, udW]
  have HF := Lib.hid hfin
  have k9 := HK9.out
  have hil := dI_len HMM.out.2.2.1 (by decide)
  simp only [Int.reduceToNat] at hil
  clear hfin
  by_cases hid : 0 < id
  · have b1 : decide (id > 0) = true := decide_eq_true hid
    have hi2 := HMM.out.2.2.1
    have lp : p2W.length = 5 := rfl
    obtain ⟨R1, n1⟩ : ∃ R, P9 ++ p2W = R := ⟨_, rfl⟩
    obtain ⟨R2, n2⟩ : ∃ R, R1 ++ dI id = R := ⟨_, rfl⟩
    have k1 : R1.length ≤ 70010 := by rw [← n1, List.length_append]; omega
    have k2 : R2.length ≤ 4294967296 := by rw [← n2, List.length_append]; omega
    have z1 : ¬ 9223372036854775807 < (mk P9).size + (⟨#[47, 112, 50, 112, 47]⟩ : ByteArray).size := small2 (a := P9) (b := p2W) (by omega) (by decide)
    have z1b : ¬ 9223372036854775807 < (mk P9).size + 5 := z1
    have z2 := small2 (a := R1) (b := dI id) (by omega) (by omega)
    have a1 : mk P9 ++ (⟨#[47, 112, 50, 112, 47]⟩ : ByteArray) = mk R1 := by rw [show (⟨#[47, 112, 50, 112, 47]⟩ : ByteArray) = mk p2W from rfl, mk_app, n1]
    have a2 : mk R1 ++ mk (dI id) = mk R2 := by rw [mk_app, n2]
    have z3 : ¬ 9223372036854775807 < (mk R2).size + (⟨#[47, 112, 50, 112, 45, 99, 105, 114, 99, 117, 105, 116]⟩ : ByteArray).size := small2 (a := R2) (b := ciW) (by omega) (by decide)
    have z3b : ¬ 9223372036854775807 < (mk R2).size + 12 := z3
    have KI2 := Lib.hid (digitsI_calls U id (by omega) (by omega))
    have HR2 : Hid (R2 = P9 ++ (p2W ++ dI id)) := Lib.hid (by rw [← n2, ← n1]; simp)
    have HID := Lib.hid hid
    clear hid n1 n2 k1 k2 lp hil k9
    cases via with
    | true =>
      have a3 : mk R2 ++ (⟨#[47, 112, 50, 112, 45, 99, 105, 114, 99, 117, 105, 116]⟩ : ByteArray) = mk (R2 ++ ciW) := by rw [show (⟨#[47, 112, 50, 112, 45, 99, 105, 114, 99, 117, 105, 116]⟩ : ByteArray) = mk ciW from rfl, mk_app]
      go_wp2_with (go_at_call 16; refine KI2.out.mono ?_; rintro e w4 ⟨rfl, hb4⟩; obtain ⟨x0, x1, x2, x3⟩ := PC2.out w4 hb4; have HB4 := Lib.hid (HWN.out.trans (hb4.mono HWN.out.size)); clear hb4)
      go_ret
      refine ⟨?_, HB.out.trans (HB4.out.mono HB.out.size)⟩
      have e : R2 ++ ciW = textV (h, p, id, true) := by
        rw [HR2.out, List.append_assoc]
        refine (HF.out _).2 ?_
        unfold tailS
        dsimp only
        rw [if_pos HID.out, if_pos rfl]
        simp [p2W, ciW]
      show Ending.returned (.string (mk (R2 ++ ciW))) = _
      rw [e]
    | false =>
      go_wp2_with (go_at_call 16; refine KI2.out.mono ?_; rintro e w4 ⟨rfl, hb4⟩; obtain ⟨x0, x1, x2, x3⟩ := PC2.out w4 hb4; have HB4 := Lib.hid (HWN.out.trans (hb4.mono HWN.out.size)); clear hb4)
      go_ret
      refine ⟨?_, HB.out.trans (HB4.out.mono HB.out.size)⟩
      have e : R2 = textV (h, p, id, false) := by
        rw [HR2.out]
        refine (HF.out _).2 ?_
        unfold tailS
        dsimp only
        rw [if_pos HID.out, if_neg (by decide)]
        simp [p2W]
      show Ending.returned (.string (mk R2)) = _
      rw [e]
  · have b1 : decide (id > 0) = false := decide_eq_false hid
    have hv : via = false := by
      cases via with
      | true => exact absurd (HMM.out.2.2.2 rfl) hid
      | false => rfl
    subst hv
    have HID := Lib.hid hid
    clear hid k9 hil
    go_wp2
    go_ret
    refine ⟨?_, HB.out.trans (HWN.out.mono HB.out.size)⟩
    have e : P9 ++ [] = textV (h, p, id, false) := by
      refine (HF.out _).2 ?_
      unfold tailS
      dsimp only
      rw [if_neg (by have := HID.out; omega), if_neg (by decide)]
      rfl
    rw [List.append_nil] at e
    show Ending.returned (.string (mk P9)) = _
    rw [e]
set_option maxRecDepth 100000 in
set_option maxHeartbeats 4000000 in
theorem reftext_no (w : World) (h p id : Int) (via : Bool) (hh : U32 h) (hm : mayP (h, p, id, via) = false) : Calls Tryd.prog 11 #[.agg #[.int .u32 h, .int .i64 p, .int .i64 id, .bool via]] w fun e w' => e = .returned (.string (mk [])) ∧ Below w.heap.size w w' := by
  obtain ⟨W, hW⟩ : ∃ W, w.alloc (.cells #[.int .u32 h, .int .i64 p, .int .i64 id, .bool via] 26) = W := ⟨_, rfl⟩
  have hb : Below w.heap.size w W := by rw [← hW]; exact (Below.refl _ _).alloc (Nat.le_refl _) _
  have hc : W.heap[w.heap.size]? = some (.cells #[.int .u32 h, .int .i64 p, .int .i64 id, .bool via] 26 (0, 0)) := by rw [← hW]; exact new_cellsN _ _ _
  have HB := Lib.hid hb
  have d0 := cell_cellsN hc 0 (by simp)
  have d1 := cell_cellsN hc 1 (by simp)
  have d2 := cell_cellsN hc 2 (by simp)
  have d3 := cell_cellsN hc 3 (by simp)
  simp only [List.getElem_toArray, List.getElem_cons_zero, List.getElem_cons_succ] at d0 d1 d2 d3
  have K := refplace_calls W h p id via hh.1
  rw [hm] at K
  have K := Lib.hid K
  clear hb hc hm hh
  go_enter Tryd.func11, Tryd.ntmps11
  go_wp2_with (go_at_call 13; refine K.out.mono ?_; rintro e w1 ⟨rfl, hb1⟩; have HB1 := Lib.hid hb1; clear hb1)
  go_ret
  exact ⟨rfl, HB.out.trans (HB1.out.mono HB.out.size)⟩
/-- The document's Text: the place's text, or none. -/
theorem reftext_calls (w : World) (h p id : Int) (via : Bool) (hh : U32 h) : Calls Tryd.prog 11 #[.agg #[.int .u32 h, .int .i64 p, .int .i64 id, .bool via]] w fun e w' => e = .returned (.string (mk (textP (h, p, id, via)))) ∧ Below w.heap.size w w' := by
  unfold textP
  cases hm : mayP (h, p, id, via) with
  | true => rw [if_pos rfl]; exact reftext_yes w h p id via hh hm
  | false => rw [if_neg (by decide)]; exact reftext_no w h p id via hh hm
end Go.Proofs.YtjbhcaifmgbpgaaDoor.Ad
