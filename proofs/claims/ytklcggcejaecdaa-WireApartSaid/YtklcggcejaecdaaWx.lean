/-
  WireApart, walked: what it computes, out of what its callees tell. Conditions: as the theorem states them.
-/
import Derived.Test.YtklcggcejaecdaaWo
import Derived.Test.YtklcggcejaecdaaWqs
namespace Go.Proofs.Ytklcggcejaecdaa.J
open Go.RowKit Go.Shelf Go.Proofs.Ytklcggcejaecdaa.Wi Go.Proofs.Ytklcggcejaecdaa.Uv Go.Proofs.Ytklcggcejaecdaa.Fr Go.Proofs.YtklcggcejaecdaaW.PrintWords Go.Proofs.YtklcggcejaecdaaW.PrintLast Go.Proofs.YtklcggcejaecdaaW.PrintMore
set_option linter.unusedVariables false
set_option linter.unusedSimpArgs false
attribute [local go_sem] Oper.semAt_some
theorem cell_cellsN {w : World} {g t : Nat} {cs : Array Value} (h : w.heap[g]? = some (.cells cs t (0, 0))) (j : Nat) (hj : j < cs.size) : w.cell? ⟨g, j, none⟩ = some cs[j] := by unfold World.cell?; rw [h]; simp [hj]
theorem new_cellsN (w : World) (t : TypeId) (cs : Array Value) : (w.alloc (.cells cs t)).heap[w.heap.size]? = some (.cells cs t (0, 0)) := (MapKept.heap_alloc w (.cells cs t)).1
theorem same_n (w : World) (A : Option Addr) (n c : Nat) (x : List Int) (B : Option Addr) (m d : Nat) (y : List Int) (hn : n = x.length) (hm : m = y.length) (hx : (Kd.int .u8).C w A n x) (hc : n ≤ c) (hy : (Kd.int .u8).C w B m y) (hd : m ≤ d) (hl : x.length ≤ 140737488355328) : Calls Try.prog 14 #[.slice A n c, .slice B m d] w fun e w' => e = .returned (.bool (decide (x = y))) ∧ Below w.heap.size w w' := by
  subst hn hm
  exact embrasureref01_Same.calls A c x B d y _ w hx hc hy hd (same_f hl)
theorem box_cells {V : World} {g : Nat} {a b c d : Value} (h : V.heap[g]? = some (.cells #[a, b, c, d] 26 (0, 0))) : V.cell? ⟨g, 0, none⟩ = some a ∧ V.cell? ⟨g, 1, none⟩ = some b ∧ V.cell? ⟨g, 2, none⟩ = some c ∧ V.cell? ⟨g, 3, none⟩ = some d :=
  ⟨cell_cellsN h 0 (by simp), cell_cellsN h 1 (by simp), cell_cellsN h 2 (by simp), cell_cellsN h 3 (by simp)⟩
set_option maxRecDepth 100000 in
set_option maxHeartbeats 8000000 in
theorem apart_walk (w : World) (k0 : Int) (A1 : Option Addr) (n1 c1 : Nat) (A2 : Option Addr) (n2 c2 : Nat) (A3 : Option Addr) (n3 c3 : Nat) (k1 : Int) (B1 : Option Addr) (m1 d1 : Nat) (B2 : Option Addr) (m2 d2 : Nat) (B3 : Option Addr) (m3 d3 : Nat) (t : Int) (s0 s1 q0 q1 : Bool) (x y : List Int) (d : Bool) (i : Nat)
    (hA : ∀ V, Calls Try.prog 9 #[] V fun e w' => e = .returned (.bool true) ∧ Below V.heap.size V w')
    (hS0 : ∀ V, Below w.heap.size w V → Calls Try.prog 10 #[.agg #[.int .i64 k0, .slice A1 n1 c1, .slice A2 n2 c2, .slice A3 n3 c3]] V fun e w' => e = .returned (.bool s0) ∧ Below V.heap.size V w')
    (hS1 : ∀ V, Below w.heap.size w V → Calls Try.prog 10 #[.agg #[.int .i64 k1, .slice B1 m1 d1, .slice B2 m2 d2, .slice B3 m3 d3]] V fun e w' => e = .returned (.bool s1) ∧ Below V.heap.size V w')
    (hQ0 : s0 = true → s1 = true → ∀ V, Below w.heap.size w V → Calls Try.prog 13 #[.agg #[.int .i64 k0, .slice A1 n1 c1, .slice A2 n2 c2, .slice A3 n3 c3]] V fun e w' => e = .returned (.bool q0) ∧ Below V.heap.size V w')
    (hQ1 : s0 = true → s1 = true → ∀ V, Below w.heap.size w V → Calls Try.prog 13 #[.agg #[.int .i64 k1, .slice B1 m1 d1, .slice B2 m2 d2, .slice B3 m3 d3]] V fun e w' => e = .returned (.bool q1) ∧ Below V.heap.size V w')
    (hX : s0 = true → s1 = true → q0 = true → q1 = true →
      (∀ V, Below w.heap.size w V → Calls Try.prog 11 #[.agg #[.int .i64 k0, .slice A1 n1 c1, .slice A2 n2 c2, .slice A3 n3 c3]] V fun e w' => ∃ v, e = .returned v ∧ (Kd.int .u8).R 5 w' V.heap.size (fun _ => True) v x ∧ Below V.heap.size V w') ∧
      (∀ V, Below w.heap.size w V → Calls Try.prog 11 #[.agg #[.int .i64 k1, .slice B1 m1 d1, .slice B2 m2 d2, .slice B3 m3 d3]] V fun e w' => ∃ v, e = .returned v ∧ (Kd.int .u8).R 5 w' V.heap.size (fun _ => True) v y ∧ Below V.heap.size V w') ∧
      (∀ V, Below w.heap.size w V → Calls Try.prog 19 #[.agg #[.int .i64 k0, .slice A1 n1 c1, .slice A2 n2 c2, .slice A3 n3 c3], .agg #[.int .i64 k1, .slice B1 m1 d1, .slice B2 m2 d2, .slice B3 m3 d3]] V fun e w' => e = .returned (.bool d) ∧ Below V.heap.size V w') ∧
      decide (x = y) = d ∧ x.length ≤ 2000 ∧ i < x.length ∧ Int.tmod (wrap64 t) (x.length : Int) = (i : Int) ∧ Bytes x ∧ fromF (x.take i) = (0, [], [], [], 3) ∧ fromF (x ++ [t % 256]) = (0, [], [], [], 3)) :
    Calls Try.prog 5 #[.agg #[.int .i64 k0, .slice A1 n1 c1, .slice A2 n2 c2, .slice A3 n3 c3], .agg #[.int .i64 k1, .slice B1 m1 d1, .slice B2 m2 d2, .slice B3 m3 d3], .int .u16 t] w fun e w' => e = .returned (.bool true) ∧ Below w.heap.size w w' := by
  have HA := Lib.hid hA
  have HS0 := Lib.hid hS0
  have HS1 := Lib.hid hS1
  have HQ0 := Lib.hid hQ0
  have HQ1 := Lib.hid hQ1
  have HX := Lib.hid hX
  clear hA hS0 hS1 hQ0 hQ1 hX
  obtain ⟨W, hW⟩ : ∃ W, (w.alloc (.cells #[.int .i64 k0, .slice A1 n1 c1, .slice A2 n2 c2, .slice A3 n3 c3] 26)).alloc (.cells #[.int .i64 k1, .slice B1 m1 d1, .slice B2 m2 d2, .slice B3 m3 d3] 26) = W := ⟨_, rfl⟩
  have hbW : Below w.heap.size w W := by rw [← hW]; exact ((Below.refl _ w).alloc (Nat.le_refl _) _).alloc (by simp) _
  have hsW : W.heap.size = w.heap.size + 2 := by rw [← hW]; simp
  have e1 : W.heap[w.heap.size]? = some (.cells #[.int .i64 k0, .slice A1 n1 c1, .slice A2 n2 c2, .slice A3 n3 c3] 26 (0, 0)) := by
    rw [← hW]; exact (((Below.refl (w.heap.size + 1) (w.alloc _)).alloc (by simp) _).block w.heap.size (by omega)).trans (new_cellsN w _ _)
  have e2 : W.heap[w.heap.size + 1]? = some (.cells #[.int .i64 k1, .slice B1 m1 d1, .slice B2 m2 d2, .slice B3 m3 d3] 26 (0, 0)) := by
    rw [← hW]; have h := new_cellsN (w.alloc (.cells #[.int .i64 k0, .slice A1 n1 c1, .slice A2 n2 c2, .slice A3 n3 c3] 26)) 26 #[.int .i64 k1, .slice B1 m1 d1, .slice B2 m2 d2, .slice B3 m3 d3]; rw [World.size_alloc] at h; exact h
  have HBW := Lib.hid hbW
  have CA := Lib.hid (fun (V : World) (hV : Below W.heap.size W V) => box_cells ((hV.block _ (by omega)).trans e1))
  have CB := Lib.hid (fun (V : World) (hV : Below W.heap.size W V) => box_cells ((hV.block _ (by omega)).trans e2))
  have HUP := Lib.hid (fun (V : World) (hV : Below W.heap.size W V) => hbW.trans (hV.mono hbW.size))
  clear e1 e2 hsW
  go_enter Try.func5, Try.ntmps5
  go_upto_region 3 with (go_at_call 9; refine (HA.out _).mono ?_; rintro e w1 ⟨rfl, hb1⟩; have HB1 := Lib.hid hb1; clear hb1)
  clear hW hbW
  have U1 := Lib.hid (HUP.out _ HB1.out)
  obtain ⟨a0, a1, a2, a3⟩ := CA.out _ HB1.out
  cases s0 with
  | false =>
    go_wp2_with (go_at_call 10; with_reducible refine (HS0.out _ U1.out).mono ?_; rintro e w2 ⟨rfl, hb2⟩; have HB2 := Lib.hid hb2; clear hb2)
    go_ret
    exact ⟨rfl, U1.out.trans (HB2.out.mono U1.out.size)⟩
  | true =>
  cases s1 with
  | false =>
    go_wp2_with (first
      | (go_at_call 10; with_reducible refine (HS0.out _ U1.out).mono ?_; rintro e w2 ⟨rfl, hb2⟩; have HB2 := Lib.hid (HB1.out.trans (hb2.mono HB1.out.size)); clear hb2; obtain ⟨b0, b1, b2, b3⟩ := CB.out _ HB2.out)
      | (go_at_call 10; with_reducible refine (HS1.out _ (HUP.out _ HB2.out)).mono ?_; rintro e w3 ⟨rfl, hb3⟩; have HB3 := Lib.hid (HB2.out.trans (hb3.mono HB2.out.size)); clear hb3))
    go_ret
    exact ⟨rfl, HUP.out _ HB3.out⟩
  | true =>
  have R0 := Lib.hid (HQ0.out rfl rfl)
  have R1 := Lib.hid (HQ1.out rfl rfl)
  cases q0 with
  | false =>
    go_wp2_with (first
      | (go_at_call 10; with_reducible refine (HS0.out _ U1.out).mono ?_; rintro e w2 ⟨rfl, hb2⟩; have HB2 := Lib.hid (HB1.out.trans (hb2.mono HB1.out.size)); clear hb2; obtain ⟨b0, b1, b2, b3⟩ := CB.out _ HB2.out)
      | (go_at_call 10; with_reducible refine (HS1.out _ (HUP.out _ HB2.out)).mono ?_; rintro e w3 ⟨rfl, hb3⟩; have HB3 := Lib.hid (HB2.out.trans (hb3.mono HB2.out.size)); clear hb3; obtain ⟨f0, f1, f2, f3⟩ := CA.out _ HB3.out)
      | (go_at_call 13; with_reducible refine (R0.out _ (HUP.out _ HB3.out)).mono ?_; rintro e w4 ⟨rfl, hb4⟩; have HB4 := Lib.hid (HB3.out.trans (hb4.mono HB3.out.size)); clear hb4))
    go_ret
    exact ⟨rfl, HUP.out _ HB4.out⟩
  | true =>
  cases q1 with
  | false =>
    go_wp2_with (first
      | (go_at_call 10; with_reducible refine (HS0.out _ U1.out).mono ?_; rintro e w2 ⟨rfl, hb2⟩; have HB2 := Lib.hid (HB1.out.trans (hb2.mono HB1.out.size)); clear hb2; obtain ⟨b0, b1, b2, b3⟩ := CB.out _ HB2.out)
      | (go_at_call 10; with_reducible refine (HS1.out _ (HUP.out _ HB2.out)).mono ?_; rintro e w3 ⟨rfl, hb3⟩; have HB3 := Lib.hid (HB2.out.trans (hb3.mono HB2.out.size)); clear hb3; obtain ⟨f0, f1, f2, f3⟩ := CA.out _ HB3.out)
      | (go_at_call 13; with_reducible refine (R0.out _ (HUP.out _ HB3.out)).mono ?_; rintro e w4 ⟨rfl, hb4⟩; have HB4 := Lib.hid (HB3.out.trans (hb4.mono HB3.out.size)); clear hb4; obtain ⟨g0, g1, g2, g3⟩ := CB.out _ HB4.out)
      | (go_at_call 13; with_reducible refine (R1.out _ (HUP.out _ HB4.out)).mono ?_; rintro e w5 ⟨rfl, hb5⟩; have HB5 := Lib.hid (HB4.out.trans (hb5.mono HB4.out.size)); clear hb5))
    go_ret
    exact ⟨rfl, HUP.out _ HB5.out⟩
  | true =>
  obtain ⟨hx0, hx1, hs, hd, hl, hi, htm, hbx, hf1, hf2⟩ := HX.out rfl rfl rfl rfl
  have X0 := Lib.hid hx0
  have X1 := Lib.hid hx1
  have SS := Lib.hid hs
  have HD := Lib.hid hd
  have HBX := Lib.hid hbx
  have HF1 := Lib.hid hf1
  have HF2 := Lib.hid hf2
  obtain ⟨nx, hnx⟩ : ∃ n, x.length = n := ⟨_, rfl⟩
  obtain ⟨ny, hny⟩ : ∃ n, y.length = n := ⟨_, rfl⟩
  rw [hnx] at hl hi htm
  have HNX := Lib.hid hnx
  have HNY := Lib.hid hny
  have HL := Lib.hid hl
  have HI := Lib.hid hi
  have HTM := Lib.hid htm
  clear hx0 hx1 hs hd hbx hf1 hf2 hnx hny hl hi htm
  go_upto_region 5 with (first
      | (go_at_call 10; with_reducible refine (HS0.out _ U1.out).mono ?_; rintro e w2 ⟨rfl, hb2⟩; have HB2 := Lib.hid (HB1.out.trans (hb2.mono HB1.out.size)); clear hb2; obtain ⟨b0, b1, b2, b3⟩ := CB.out _ HB2.out)
      | (go_at_call 10; with_reducible refine (HS1.out _ (HUP.out _ HB2.out)).mono ?_; rintro e w3 ⟨rfl, hb3⟩; have HB3 := Lib.hid (HB2.out.trans (hb3.mono HB2.out.size)); clear hb3; obtain ⟨f0, f1, f2, f3⟩ := CA.out _ HB3.out)
      | (go_at_call 13; with_reducible refine (R0.out _ (HUP.out _ HB3.out)).mono ?_; rintro e w4 ⟨rfl, hb4⟩; have HB4 := Lib.hid (HB3.out.trans (hb4.mono HB3.out.size)); clear hb4; obtain ⟨g0, g1, g2, g3⟩ := CB.out _ HB4.out)
      | (go_at_call 13; with_reducible refine (R1.out _ (HUP.out _ HB4.out)).mono ?_; rintro e w5 ⟨rfl, hb5⟩; have HB5 := Lib.hid (HB4.out.trans (hb5.mono HB4.out.size)); clear hb5))
  clear a0 a1 a2 a3 b0 b1 b2 b3 f0 f1 f2 f3 g0 g1 g2 g3
  obtain ⟨a0, a1, a2, a3⟩ := CA.out _ HB5.out
  go_upto_region 6 with (go_at_call 11; with_reducible refine (X0.out _ (HUP.out _ HB5.out)).mono ?_; rintro e w6 ⟨v6, rfl, hR6, hb6⟩; obtain ⟨Ax, cx, hv6, hcx, hCx⟩ := Kd.R_reads hR6; rw [HNX.out] at hv6 hcx hCx; subst hv6; have HCX := Lib.hid hCx; have HCXL := Lib.hid hcx; have HB6 := Lib.hid (HB5.out.trans (hb6.mono HB5.out.size)); clear hb6 hR6 hCx hcx)
  clear a0 a1 a2 a3
  have HCELL := Lib.hid (show ∀ V, Below W.heap.size W V → V.cell? ⟨w.heap.size, 0, none⟩ = some (.int .i64 k0) ∧ V.cell? ⟨w.heap.size, 1, none⟩ = some (.slice A1 n1 c1) ∧ V.cell? ⟨w.heap.size, 2, none⟩ = some (.slice A2 n2 c2) ∧ V.cell? ⟨w.heap.size, 3, none⟩ = some (.slice A3 n3 c3) ∧ V.cell? ⟨w.heap.size + 1, 0, none⟩ = some (.int .i64 k1) ∧ V.cell? ⟨w.heap.size + 1, 1, none⟩ = some (.slice B1 m1 d1) ∧ V.cell? ⟨w.heap.size + 1, 2, none⟩ = some (.slice B2 m2 d2) ∧ V.cell? ⟨w.heap.size + 1, 3, none⟩ = some (.slice B3 m3 d3) from fun V hV => by
    obtain ⟨a0, a1, a2, a3⟩ := CA.out _ hV
    obtain ⟨b0, b1, b2, b3⟩ := CB.out _ hV
    exact ⟨a0, a1, a2, a3, b0, b1, b2, b3⟩)
  have f6 := HCELL.out w6 HB6.out
  have z1 : (d != d) = false := by simp
  have z2 : ((nx : Int) == 0) = false := by have := HI.out; simp; omega
  have H6d := Lib.hid (show Below w6.heap.size w6 w6.drew from ⟨rfl, rfl, rfl, Nat.le_refl _, fun _ _ => rfl⟩)
  have HB6d := Lib.hid (HB6.out.trans (H6d.out.mono HB6.out.size))
  refine wp_region_held_drew (S := fun w' => w'.cell? ⟨w.heap.size, 0, none⟩ = some (.int .i64 k0) ∧ w'.cell? ⟨w.heap.size, 1, none⟩ = some (.slice A1 n1 c1) ∧ w'.cell? ⟨w.heap.size, 2, none⟩ = some (.slice A2 n2 c2) ∧ w'.cell? ⟨w.heap.size, 3, none⟩ = some (.slice A3 n3 c3) ∧ w'.cell? ⟨w.heap.size + 1, 0, none⟩ = some (.int .i64 k1) ∧ w'.cell? ⟨w.heap.size + 1, 1, none⟩ = some (.slice B1 m1 d1) ∧ w'.cell? ⟨w.heap.size + 1, 2, none⟩ = some (.slice B2 m2 d2) ∧ w'.cell? ⟨w.heap.size + 1, 3, none⟩ = some (.slice B3 m3 d3)) (by kernel_rfl) ?_ (fun hHeld => ?_)
  · exact f6
  refine wpAnyH_take (i := 0) (v := ?_) rfl (by kernel_rfl) (by kernel_rfl) (by kernel_rfl) (fun _ _ _ h => h) (Or.inl ⟨by rfl, ?_⟩) (by assumption) ?_
  rotate_left
  · (intro w hSw; (try dsimp only at hSw); go_simp; try with_reducible rfl)
  try simp only [Act.put, List.setIfInBounds_toArray, List.set_cons_zero, List.set_cons_succ, List.getElem_toArray, List.getElem_cons_succ, List.getElem_cons_zero]
  refine wpAnyH_take (i := 1) (v := ?_) rfl (by kernel_rfl) (by kernel_rfl) (by kernel_rfl) (fun _ _ _ h => h) (Or.inl ⟨by rfl, ?_⟩) (by assumption) ?_
  rotate_left
  · (intro w hSw; (try dsimp only at hSw); go_simp; try with_reducible rfl)
  try simp only [Act.put, List.setIfInBounds_toArray, List.set_cons_zero, List.set_cons_succ, List.getElem_toArray, List.getElem_cons_succ, List.getElem_cons_zero]
  refine wpAnyH_take (i := 4) (v := ?_) rfl (by kernel_rfl) (by kernel_rfl) (by kernel_rfl) (fun _ _ _ h => h) (Or.inl ⟨by rfl, ?_⟩) (by assumption) ?_
  rotate_left
  · (intro w hSw; (try dsimp only at hSw); go_simp; try with_reducible rfl)
  try simp only [Act.put, List.setIfInBounds_toArray, List.set_cons_zero, List.set_cons_succ, List.getElem_toArray, List.getElem_cons_succ, List.getElem_cons_zero]
  refine wpAnyH_take (i := 5) (v := ?_) rfl (by kernel_rfl) (by kernel_rfl) (by kernel_rfl) (fun _ _ _ h => h) (Or.inl ⟨by rfl, ?_⟩) (by assumption) ?_
  rotate_left
  · (intro w hSw; (try dsimp only at hSw); go_simp; try with_reducible rfl)
  try simp only [Act.put, List.setIfInBounds_toArray, List.set_cons_zero, List.set_cons_succ, List.getElem_toArray, List.getElem_cons_succ, List.getElem_cons_zero]
  refine wpAnyH_ready (rs := [2]) (by kernel_rfl) (by simp) ?_
  refine AllReadyH.cons rfl (fun K hK => ?_) AllReadyH.nil
  go_simp
  go_at_call 11; refine (X1.out _ (HUP.out _ HB6d.out)).mono ?_; rintro e w7 ⟨v7, rfl, hR7, hb7⟩; obtain ⟨Ay, cy, hv7, hcy, hCy⟩ := Kd.R_reads hR7; rw [HNY.out] at hv7 hcy hCy; subst hv7; have HCY := Lib.hid hCy; have HCYL := Lib.hid hcy; have H67 := Lib.hid (H6d.out.trans (hb7.mono H6d.out.size)); have HB7 := Lib.hid (HB6d.out.trans (hb7.mono HB6d.out.size)); clear hb7 hR7 hCy hcy; have f7 := HCELL.out w7 HB7.out
  refine hK.out _ _ ?_ (fun hHeld => ?_)
  · exact f7
  clear hK K
  try simp only [Act.put, List.setIfInBounds_toArray, List.set_cons_zero, List.set_cons_succ, List.getElem_toArray, List.getElem_cons_succ, List.getElem_cons_zero]
  refine wpAnyH_ready (rs := [3]) (by kernel_rfl) (by simp) ?_
  refine AllReadyH.cons rfl (fun K hK => ?_) AllReadyH.nil
  go_simp
  go_at_call 14; refine (same_n w7 Ax nx cx x Ay ny cy y HNX.out.symm HNY.out.symm (Kd.C_below HCX.out H67.out) HCXL.out HCY.out HCYL.out (by have := HL.out; have := HNX.out; omega)).mono ?_; rw [HD.out]; rintro e w8 ⟨rfl, hb8⟩; have H78 := Lib.hid hb8; have HB8 := Lib.hid (HB7.out.trans (hb8.mono HB7.out.size)); clear hb8; have f8 := HCELL.out w8 HB8.out
  refine hK.out _ _ ?_ (fun hHeld => ?_)
  · exact f8
  clear hK K
  try simp only [Act.put, List.setIfInBounds_toArray, List.set_cons_zero, List.set_cons_succ, List.getElem_toArray, List.getElem_cons_succ, List.getElem_cons_zero]
  refine wpAnyH_ready (rs := [6]) (by kernel_rfl) (by simp) ?_
  refine AllReadyH.cons rfl (fun K hK => ?_) AllReadyH.nil
  go_simp
  go_at_call 19; refine (SS.out w8 (HUP.out _ HB8.out)).mono ?_; rintro e w9 ⟨rfl, hb9⟩; have H89 := Lib.hid hb9; have HB9 := Lib.hid (HB8.out.trans (hb9.mono HB8.out.size)); clear hb9; have f9 := HCELL.out w9 HB9.out
  refine hK.out _ _ ?_ (fun hHeld => ?_)
  · exact f9
  clear hK K
  try simp only [Act.put, List.setIfInBounds_toArray, List.set_cons_zero, List.set_cons_succ, List.getElem_toArray, List.getElem_cons_succ, List.getElem_cons_zero]
  refine wpAnyH_take (i := 7) (v := ?_) rfl (by kernel_rfl) (by kernel_rfl) (by kernel_rfl) (fun _ _ _ h => h) (Or.inl ⟨by rfl, ?_⟩) (by assumption) ?_
  rotate_left
  · (intro w hSw; (try dsimp only at hSw); go_simp; try with_reducible rfl)
  try simp only [Act.put, List.setIfInBounds_toArray, List.set_cons_zero, List.set_cons_succ, List.getElem_toArray, List.getElem_cons_succ, List.getElem_cons_zero]
  refine wpAnyH_take (i := 8) (v := ?_) rfl (by kernel_rfl) (by kernel_rfl) (by kernel_rfl) (fun _ _ _ h => h) (Or.inl ⟨by rfl, ?_⟩) (by assumption) ?_
  rotate_left
  · (intro w hSw; (try dsimp only at hSw); go_simp; try with_reducible rfl)
  try simp only [Act.put, List.setIfInBounds_toArray, List.set_cons_zero, List.set_cons_succ, List.getElem_toArray, List.getElem_cons_succ, List.getElem_cons_zero]
  refine wpAnyH_take (i := 9) (v := ?_) rfl (by kernel_rfl) (by kernel_rfl) (by kernel_rfl) (fun _ _ _ h => h) (Or.inl ⟨by rfl, ?_⟩) (by assumption) ?_
  rotate_left
  · (intro w hSw; (try dsimp only at hSw); go_simp; try with_reducible rfl)
  try simp only [Act.put, List.setIfInBounds_toArray, List.set_cons_zero, List.set_cons_succ, List.getElem_toArray, List.getElem_cons_succ, List.getElem_cons_zero]
  refine wpAnyH_take (i := 10) (v := ?_) rfl (by kernel_rfl) (by kernel_rfl) (by kernel_rfl) (fun _ _ _ h => h) (Or.inl ⟨by rfl, ?_⟩) (by assumption) ?_
  rotate_left
  · (intro w hSw; (try dsimp only at hSw); go_simp; try with_reducible rfl)
  try simp only [Act.put, List.setIfInBounds_toArray, List.set_cons_zero, List.set_cons_succ, List.getElem_toArray, List.getElem_cons_succ, List.getElem_cons_zero]
  refine wpAnyH_take (i := 11) (v := ?_) rfl (by kernel_rfl) (by kernel_rfl) (by kernel_rfl) (fun _ _ _ h => h) (Or.inl ⟨by rfl, ?_⟩) (by assumption) ?_
  rotate_left
  · (intro w hSw; (try dsimp only at hSw); go_simp; try with_reducible rfl)
  try simp only [Act.put, List.setIfInBounds_toArray, List.set_cons_zero, List.set_cons_succ, List.getElem_toArray, List.getElem_cons_succ, List.getElem_cons_zero]
  refine wpAnyH_take (i := 12) (v := ?_) rfl (by kernel_rfl) (by kernel_rfl) (by kernel_rfl) (fun _ _ _ h => h) (Or.inl ⟨by rfl, ?_⟩) (by assumption) ?_
  rotate_left
  · (intro w hSw; (try dsimp only at hSw); go_simp; try with_reducible rfl)
  try simp only [Act.put, List.setIfInBounds_toArray, List.set_cons_zero, List.set_cons_succ, List.getElem_toArray, List.getElem_cons_succ, List.getElem_cons_zero]
  refine wpAnyH_done (by kernel_rfl) ?_ _
  clear z1 z2
  (try clear f6)
  have HCX9 := Lib.hid (Kd.C_below HCX.out (H67.out.trans ((H78.out.trans (H89.out.mono H78.out.size)).mono H67.out.size)))
  obtain ⟨i0, hi0, _, hsz0, _⟩ := info_parts info8
  have hil : (i : Int) ≤ x.length := by have := HI.out; have := HNX.out; omega
  have hcl : x.length ≤ cx := by have := HNX.out; have := HCXL.out; omega
  have ht := print_take_of (P := Try.prog) (Value.int .u8) 0 24 5 .i64 Try.underlying24 hi0 hsz0 Ax cx x (i : Int) (by omega) hil hcl
  have ht6 : (x.take (i : Int).toNat).length = i := by rw [List.length_take, Int.toNat_natCast]; omega
  have hcut6 := ht.1
  rw [ht6, HNX.out] at hcut6
  have K10 := Lib.hid (fb_calls w9 Ax i cx (x.take i) (by rw [Int.toNat_natCast] at ht6; exact ht6.symm) (by have h := ht.2.1 w9 (Kd.reads_of_C (by rw [HNX.out]; exact HCX9.out)); rw [ht6, Int.toNat_natCast] at h; exact Kd.C_of_reads (h1 := fun _ => rfl) h) (by omega) (fun z hz => HBX.out z (List.mem_of_mem_take hz)) (by have := HL.out; have := HI.out; omega))
  have hr := HTM.out
  have z3 : ¬ ((nx : Int) = 0) := by have := HI.out; omega
  clear ht ht6 hil hcl hi0 hsz0
  go_upto_region 9 with (go_at_call 18; refine K10.out.mono ?_; rintro e w10 ⟨v1, v2, v3, rfl, hR1, hR2, hR3, hb10⟩; rw [HF1.out] at hR1 hR2 hR3; (try rw [HF1.out]); have HB10 := Lib.hid hb10; obtain ⟨A4, c4, hv4, _, _⟩ := Kd.R_reads hR1; subst hv4; obtain ⟨A5, c5, hv5, _, _⟩ := Kd.R_reads hR2; subst hv5; obtain ⟨A6, c6, hv6, _, _⟩ := Kd.R_reads hR3; subst hv6; clear hR1 hR2 hR3 hb10)
  clear hr z3 hcut6
  obtain ⟨X2, hX2⟩ : ∃ X, w10.alloc (.cells #[.int .i64 0, .slice A4 0 c4, .slice A5 0 c5, .slice A6 0 c6] 26) = X := ⟨_, rfl⟩
  have hb2 : Below w9.heap.size w9 X2 := by rw [← hX2]; exact HB10.out.alloc HB10.out.size _
  have HBX2 := Lib.hid (HB9.out.trans (hb2.mono HB9.out.size))
  have HCX2 := Lib.hid (Kd.C_below HCX9.out hb2)
  rw [hX2]
  clear hX2 hb2
  obtain ⟨z, hz⟩ : ∃ z, x ++ [t % 256] = z := ⟨_, rfl⟩
  obtain ⟨nz, hnz⟩ : ∃ n, z.length = n := ⟨_, rfl⟩
  have HZB := Lib.hid (show Bytes z from by
    rw [← hz]
    intro v hv
    rcases List.mem_append.1 hv with hv | hv
    · exact HBX.out v hv
    · rw [List.mem_singleton.1 hv]; omega)
  have HZL := Lib.hid (show nz ≤ 3000 by rw [← hnz, ← hz, List.length_append, HNX.out]; have := HL.out; simp; omega)
  have HF3 := HF2.out
  rw [hz] at HF3
  have HF3 := Lib.hid HF3
  have HZ := Lib.hid hz
  have HNZ := Lib.hid hnz
  clear hz hnz
  go_wp2_with (first
    | ((with_reducible refine gate_dst (N := 59) rfl ?_); (try (refine gate_guard (by rfl) ?_; dsimp only)); refine Kd.R_lit (Kd.int .u8) _ 5 ?hg2 (N := 59) ?hd2 (xs := ([] : List Int)) (inner := []) (ok := fun _ => True) (okp := fun _ => True) ?hr2 ?hp2 (fun _ hk => hk) trivial (Below.refl _ _) (Nat.le_refl _) (by simp) ?_; (case hd2 => rfl); (case hg2 => rfl); (case hr2 => first | (go_simp; done) | (go_simp; rfl)); (case hp2 => exact (Reps.none _ _)); intro v59 w59 ho59 hb59 hg59 hnew59; clear hg59 hnew59)
    | ((with_reducible refine gate_builtin (b := .append) (xs := #[.tmp 59, .tmp 60]) rfl ?_); (try (refine gate_guard (by rfl) ?_; dsimp only)); at_builtin; refine Kd.R_append_row (Value.int .u8) (0 : Int) (w0 := X2) X2.heap.size rfl (.tmp 59) (.tmp 60) 24 5 (.int .u8 0) 1 rfl Try.underlying24 info8 rfl (by omega) v59 [] x Ax nx cx (fun _ => True) rfl rfl (fun _ _ => trivial) ho59 (Kd.C_below HCX2.out hb59) hb59 hb59.size (by have := HL.out; simp; omega) ?_; intro v61 w61 ho61 hb61 hg61 hat61; rw [List.nil_append] at ho61; clear hg61 hat61)
    | ((with_reducible refine gate_builtin (b := .append) (xs := #[.tmp 61, .tmp 64]) rfl ?_); (try (refine gate_guard (by rfl) ?_; dsimp only)); at_builtin; refine Kd.R_append (Kd.int .u8) (w0 := X2) X2.heap.size rfl (.tmp 61) (.tmp 64) 24 5 (.int .u8 0) 1 rfl Try.underlying24 info8 rfl (by decide) (by omega) v61 x (t % 256) [.int .u8 (t % 256)] (fun _ => True) (fun _ => False) rfl rfl ?aP (fun _ hk => hk.elim) ?aF ?aO ?aB ?aS ?aL ?_; (case aP => exact rfl); (case aB => exact hb61); (case aF => exact (fun _ _ => trivial)); (case aO => exact ho61); (case aS => exact hb61.size); (case aL => have := HL.out; have := HNX.out; omega); intro v65 w65 ho65 hb65 hg65 hat65; rw [HZ.out] at ho65; obtain ⟨A65, c65, hv65, hc65, hC65⟩ := Kd.R_reads ho65; rw [HNZ.out] at hv65 hc65 hC65; subst hv65; have HC65 := Lib.hid hC65; have HB65 := Lib.hid hb65; have HCL := Lib.hid hc65; clear hg65 hat65 ho65 hC65 hb65 hc65)
    | go_loud (go_at_call 18; refine (fb_calls _ A65 nz c65 z HNZ.out.symm HC65.out HCL.out HZB.out (by have := HZL.out; omega)).mono ?_; rintro e w11 ⟨v1, v2, v3, rfl, hR1, hR2, hR3, hb11⟩; rw [HF3.out] at hR1 hR2 hR3; (try rw [HF3.out]); have HB11 := Lib.hid hb11; obtain ⟨A7, c7, hv7, _, _⟩ := Kd.R_reads hR1; subst hv7; obtain ⟨A8, c8, hv8, _, _⟩ := Kd.R_reads hR2; subst hv8; obtain ⟨A9, c9, hv9, _, _⟩ := Kd.R_reads hR3; subst hv9; clear hR1 hR2 hR3 hb11))
  go_ret
  exact ⟨rfl, HUP.out _ (HBX2.out.trans (((HB65.out.trans (HB11.out.mono HB65.out.size)).alloc (Nat.le_trans HB65.out.size HB11.out.size) _).mono HBX2.out.size))⟩
end Go.Proofs.Ytklcggcejaecdaa.J
