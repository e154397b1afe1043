/-
  addr: the document's FromBytes. Conditions: as the theorems state them.
-/
import Derived.Test.YtjbhcaifmgbpgaaDoorBc
namespace Go.Proofs.YtjbhcaifmgbpgaaDoor.Ad
open Go Go.RowKit Go.Shelf Go.Proofs.YtjbhcaifmgbpgaaDoorW.PrintWords Go.Proofs.YtjbhcaifmgbpgaaDoorW.PrintLast Go.Proofs.YtjbhcaifmgbpgaaDoorW.PrintMore
set_option linter.unusedVariables false
set_option linter.unusedSimpArgs false
attribute [local go_sem] Oper.semAt_some
theorem rfb_results {V : World} {g : Nat} {h p c : Int} (tmps : Array Value) (hq : AdAt V g h p) (h2 : tmps[2]?.getD undef = .pointer (some ⟨g, 0, none⟩)) (h3 : tmps[3]?.getD undef = .int .i64 c) :
    (results Tryd.f22 tmps).run Tryd.prog V = .ok (.tuple #[.agg #[.int .u32 h, .int .i64 p], .int .i64 c]) V := by
  obtain ⟨r0, r1⟩ := hq.cells.1
  simp [results, Tryd.f22, go_sem, h2, h3, r0, r1, Result.andThen]
def SFb (w : World) (ad : Addr) (a b c d e f : Int) (V : World) : Prop := Below w.heap.size w V ∧ AdAt V w.heap.size 0 0 ∧ V.cell? ad = some (.int .u8 a) ∧ V.cell? ⟨ad.block, ad.off + 1, none⟩ = some (.int .u8 b) ∧ V.cell? ⟨ad.block, ad.off + 2, none⟩ = some (.int .u8 c) ∧ V.cell? ⟨ad.block, ad.off + 3, none⟩ = some (.int .u8 d) ∧ V.cell? ⟨ad.block, ad.off + 4, none⟩ = some (.int .u8 e) ∧ V.cell? ⟨ad.block, ad.off + 5, none⟩ = some (.int .u8 f)
theorem SFb.below {w : World} {ad : Addr} {a b c d e f : Int} {V V' : World} (hs : SFb w ad a b c d e f V) (hb : Below V.heap.size V V') : SFb w ad a b c d e f V' := by
  obtain ⟨h0, h1, q0, q1, q2, q3, q4, q5⟩ := hs
  have kk : ∀ {a : Addr} {x : Value}, V.cell? a = some x → V'.cell? a = some x := fun hx => (hb.cell (World.block_lt_of_cell? _ _ hx)).trans hx
  exact ⟨h0.trans (hb.mono h0.size), h1.below hb, kk q0, kk q1, kk q2, kk q3, kk q4, kk q5⟩
set_option maxRecDepth 100000 in
set_option maxHeartbeats 8000000 in
theorem rfb_calls (w : World) (A : Option Addr) (n c : Nat) (l : List Int) (hn : n = l.length) (hr : Row8 w A l) (hc : n ≤ c) (hb : InB l) : Calls Tryd.prog 22 #[.slice A n c] w fun e w' => e = .returned (.tuple #[.agg #[.int .u32 (fbV l).1, .int .i64 (fbV l).2.1], .int .i64 (fbV l).2.2]) ∧ Below w.heap.size w w' := by
  have HR := Lib.hid hr
  have HI := Lib.hid hb
  clear hr hb
  go_enter Tryd.func22, Tryd.ntmps22
  go_upto_region 1 with fail
  obtain ⟨W0, hW0⟩ : ∃ W0, w.alloc (.cells #[.int .u32 0, .int .i64 0] 24) = W0 := ⟨_, rfl⟩
  have hb0 : Below w.heap.size w W0 := by rw [← hW0]; exact (Below.refl _ _).alloc (Nat.le_refl _) _
  have hR0 : AdAt W0 w.heap.size 0 0 := by rw [← hW0]; exact ad_new _ _ _
  rw [hW0]
  obtain ⟨⟨r0, r1⟩, z0, z1⟩ := hR0.cells
  have HB0 := Lib.hid hb0
  have HR0 := Lib.hid hR0
  clear hW0 hb0 hR0
  by_cases h6 : n = 6
  · subst h6
    obtain ⟨x0, x1, x2, x3, x4, x5, rfl⟩ : ∃ a b c d e f, l = [a, b, c, d, e, f] := by
      match l, hn with
      | [a, b, c, d, e, f], _ => exact ⟨a, b, c, d, e, f, rfl⟩
    have HRB := HR.out.below HB0.out
    obtain ⟨ad, rfl, y0⟩ := HRB 0 (by simp)
    obtain ⟨_, q1, y1⟩ := HRB 1 (by simp)
    obtain ⟨_, q2, y2⟩ := HRB 2 (by simp)
    obtain ⟨_, q3, y3⟩ := HRB 3 (by simp)
    obtain ⟨_, q4, y4⟩ := HRB 4 (by simp)
    obtain ⟨_, q5, y5⟩ := HRB 5 (by simp)
    cases q1
    cases q2
    cases q3
    cases q4
    cases q5
    simp only [List.getElem_cons_zero, List.getElem_cons_succ] at y0 y1 y2 y3 y4 y5
    have y0 : W0.cell? ad = some (.int .u8 x0) := by simpa [Addr.add] using y0
    have y1 : W0.cell? ⟨ad.block, ad.off + 1, none⟩ = some (.int .u8 x1) := by simpa [Addr.add] using y1
    have y2 : W0.cell? ⟨ad.block, ad.off + 2, none⟩ = some (.int .u8 x2) := by simpa [Addr.add] using y2
    have y3 : W0.cell? ⟨ad.block, ad.off + 3, none⟩ = some (.int .u8 x3) := by simpa [Addr.add] using y3
    have y4 : W0.cell? ⟨ad.block, ad.off + 4, none⟩ = some (.int .u8 x4) := by simpa [Addr.add] using y4
    have y5 : W0.cell? ⟨ad.block, ad.off + 5, none⟩ = some (.int .u8 x5) := by simpa [Addr.add] using y5
    have b0 := HI.out x0 (by simp)
    have b1 := HI.out x1 (by simp)
    have b2 := HI.out x2 (by simp)
    have b3 := HI.out x3 (by simp)
    have b4 := HI.out x4 (by simp)
    have b5 := HI.out x5 (by simp)
    have eH : hI [x0, x1, x2, x3, x4, x5] 6 = (((0 * 256 + x0) * 256 + x1) * 256 + x2) * 256 + x3 := rfl
    have eP : pI [x0, x1, x2, x3, x4, x5] 6 = (0 * 256 + x4) * 256 + x5 := rfl
    have hp := pI_in HI.out 6 (by decide)
    obtain ⟨H, hH⟩ : ∃ H, hI [x0, x1, x2, x3, x4, x5] 6 = H := ⟨_, rfl⟩
    obtain ⟨P, hP⟩ : ∃ P, pI [x0, x1, x2, x3, x4, x5] 6 = P := ⟨_, rfl⟩
    rw [hH] at eH
    rw [hP] at eP hp
    have m0 : x0 * 16777216 % 4294967296 = x0 * 16777216 := by omega
    have m1 : x1 * 65536 % 4294967296 = x1 * 65536 := by omega
    have m2 : x2 * 256 % 4294967296 = x2 * 256 := by omega
    have m3 : (x0 * 16777216 + x1 * 65536) % 4294967296 = x0 * 16777216 + x1 * 65536 := by omega
    have m4 : (x0 * 16777216 + x1 * 65536 + x2 * 256) % 4294967296 = x0 * 16777216 + x1 * 65536 + x2 * 256 := by omega
    have m5 : (x0 * 16777216 + x1 * 65536 + x2 * 256 + x3) % 4294967296 = H := by omega
    have m6 : wrap64 (x4 * 256) = x4 * 256 := by unfold wrap64; omega
    have m7 : wrap64 (x4 * 256 + x5) = P := by unfold wrap64; omega
    have hH0 : 0 ≤ H := by omega
    have k0 : IntKind.u32.wrap x0 = x0 := by rw [IntKind.wrap_u32]; omega
    have k1 : IntKind.u32.wrap x1 = x1 := by rw [IntKind.wrap_u32]; omega
    have k2 : IntKind.u32.wrap x2 = x2 := by rw [IntKind.wrap_u32]; omega
    have k3 : IntKind.u32.wrap x3 = x3 := by rw [IntKind.wrap_u32]; omega
    have k4 : IntKind.i64.wrap x4 = x4 := by rw [IntKind.wrap_i64]; omega
    have k5 : IntKind.i64.wrap x5 = x5 := by rw [IntKind.wrap_i64]; omega
    have o4 : wrap64 x4 = x4 := by unfold wrap64; omega
    have o5 : wrap64 x5 = x5 := by unfold wrap64; omega
    have l0 : IntKind.u32.wrap (x0 * 16777216) = x0 * 16777216 := by rw [IntKind.wrap_u32]; omega
    have l1 : IntKind.u32.wrap (x1 * 65536) = x1 * 65536 := by rw [IntKind.wrap_u32]; omega
    have l2 : IntKind.u32.wrap (x2 * 256) = x2 * 256 := by rw [IntKind.wrap_u32]; omega
    have l3 : IntKind.u32.wrap (x0 * 16777216 + x1 * 65536) = x0 * 16777216 + x1 * 65536 := by rw [IntKind.wrap_u32]; omega
    have l4 : IntKind.u32.wrap (x0 * 16777216 + x1 * 65536 + x2 * 256) = x0 * 16777216 + x1 * 65536 + x2 * 256 := by rw [IntKind.wrap_u32]; omega
    have l5 : IntKind.u32.wrap (x0 * 16777216 + x1 * 65536 + x2 * 256 + x3) = H := by rw [IntKind.wrap_u32]; omega
    have l6 : IntKind.i64.wrap (x4 * 256) = x4 * 256 := by rw [IntKind.wrap_i64]; omega
    have l7 : IntKind.i64.wrap (x4 * 256 + x5) = P := by rw [IntKind.wrap_i64]; omega
    have E : Hid (fbV [x0, x1, x2, x3, x4, x5] = if mayA H P = true then (H, P, 0) else (0, 0, 3)) := Lib.hid (by
      unfold fbV
      rw [hH, hP]
      by_cases hm : mayA H P = true
      · rw [if_pos ⟨rfl, hm⟩, if_pos hm]
      · rw [if_neg (fun h => hm h.2), if_neg hm])
    have HH0 := Lib.hid hH0
    clear hn hH hP eH eP hp b0 b1 b2 b3 b4 b5 HR HI HRB hH0
    go_upto_region 3 with fail
    have hS0 : SFb w ad x0 x1 x2 x3 x4 x5 W0.drew := ⟨HB0.out.trans ((drew_below W0).mono HB0.out.size), HR0.out.below (drew_below W0), y0, y1, y2, y3, y4, y5⟩
    clear y0 y1 y2 y3 y4 y5 r0 r1 z0 z1
    refine wp_region_held_drew (S := SFb w ad x0 x1 x2 x3 x4 x5) (by kernel_rfl) ?_ (fun hHeld => ?_)
    · exact hS0
    refine wpAnyH_take (i := 0) (v := ?_) rfl (by kernel_rfl) (by kernel_rfl) (by kernel_rfl) (fun _ _ _ h => h) (Or.inl ⟨by rfl, ?_⟩) (by assumption) ?_
    rotate_left
    · (intro w hSw; obtain ⟨_, _, q0, q1, q2, q3, q4, q5⟩ := hSw; go_simp; try with_reducible rfl)
    try simp only [Act.put, List.setIfInBounds_toArray, List.set_cons_zero, List.set_cons_succ, List.getElem_toArray, List.getElem_cons_succ, List.getElem_cons_zero]
    refine wpAnyH_take (i := 1) (v := ?_) rfl (by kernel_rfl) (by kernel_rfl) (by kernel_rfl) (fun _ _ _ h => h) (Or.inl ⟨by rfl, ?_⟩) (by assumption) ?_
    rotate_left
    · (intro w hSw; obtain ⟨_, _, q0, q1, q2, q3, q4, q5⟩ := hSw; go_simp; try with_reducible rfl)
    try simp only [Act.put, List.setIfInBounds_toArray, List.set_cons_zero, List.set_cons_succ, List.getElem_toArray, List.getElem_cons_succ, List.getElem_cons_zero]
    refine wpAnyH_take (i := 2) (v := ?_) rfl (by kernel_rfl) (by kernel_rfl) (by kernel_rfl) (fun _ _ _ h => h) (Or.inl ⟨by rfl, ?_⟩) (by assumption) ?_
    rotate_left
    · (intro w hSw; obtain ⟨_, _, q0, q1, q2, q3, q4, q5⟩ := hSw; go_simp; try with_reducible rfl)
    try simp only [Act.put, List.setIfInBounds_toArray, List.set_cons_zero, List.set_cons_succ, List.getElem_toArray, List.getElem_cons_succ, List.getElem_cons_zero]
    refine wpAnyH_take (i := 3) (v := ?_) rfl (by kernel_rfl) (by kernel_rfl) (by kernel_rfl) (fun _ _ _ h => h) (Or.inl ⟨by rfl, ?_⟩) (by assumption) ?_
    rotate_left
    · (intro w hSw; obtain ⟨_, _, q0, q1, q2, q3, q4, q5⟩ := hSw; go_simp; try with_reducible rfl)
    try simp only [Act.put, List.setIfInBounds_toArray, List.set_cons_zero, List.set_cons_succ, List.getElem_toArray, List.getElem_cons_succ, List.getElem_cons_zero]
    refine wpAnyH_take (i := 4) (v := ?_) rfl (by kernel_rfl) (by kernel_rfl) (by kernel_rfl) (fun _ _ _ h => h) (Or.inl ⟨by rfl, ?_⟩) (by assumption) ?_
    rotate_left
    · (intro w hSw; obtain ⟨_, _, q0, q1, q2, q3, q4, q5⟩ := hSw; go_simp; try with_reducible rfl)
    try simp only [Act.put, List.setIfInBounds_toArray, List.set_cons_zero, List.set_cons_succ, List.getElem_toArray, List.getElem_cons_succ, List.getElem_cons_zero]
    refine wpAnyH_take (i := 5) (v := ?_) rfl (by kernel_rfl) (by kernel_rfl) (by kernel_rfl) (fun _ _ _ h => h) (Or.inl ⟨by rfl, ?_⟩) (by assumption) ?_
    rotate_left
    · (intro w hSw; obtain ⟨_, _, q0, q1, q2, q3, q4, q5⟩ := hSw; go_simp; try with_reducible rfl)
    try simp only [Act.put, List.setIfInBounds_toArray, List.set_cons_zero, List.set_cons_succ, List.getElem_toArray, List.getElem_cons_succ, List.getElem_cons_zero]
    refine wpAnyH_take (i := 6) (v := ?_) rfl (by kernel_rfl) (by kernel_rfl) (by kernel_rfl) (fun _ _ _ h => h) (Or.inl ⟨by rfl, ?_⟩) (by assumption) ?_
    rotate_left
    · (intro w hSw; obtain ⟨_, _, q0, q1, q2, q3, q4, q5⟩ := hSw; go_simp; try with_reducible rfl)
    try simp only [Act.put, List.setIfInBounds_toArray, List.set_cons_zero, List.set_cons_succ, List.getElem_toArray, List.getElem_cons_succ, List.getElem_cons_zero]
    refine wpAnyH_take (i := 7) (v := ?_) rfl (by kernel_rfl) (by kernel_rfl) (by kernel_rfl) (fun _ _ _ h => h) (Or.inl ⟨by rfl, ?_⟩) (by assumption) ?_
    rotate_left
    · (intro w hSw; obtain ⟨_, _, q0, q1, q2, q3, q4, q5⟩ := hSw; go_simp; try with_reducible rfl)
    try simp only [Act.put, List.setIfInBounds_toArray, List.set_cons_zero, List.set_cons_succ, List.getElem_toArray, List.getElem_cons_succ, List.getElem_cons_zero]
    refine wpAnyH_take (i := 8) (v := ?_) rfl (by kernel_rfl) (by kernel_rfl) (by kernel_rfl) (fun _ _ _ h => h) (Or.inl ⟨by rfl, ?_⟩) (by assumption) ?_
    rotate_left
    · (intro w hSw; obtain ⟨_, _, q0, q1, q2, q3, q4, q5⟩ := hSw; go_simp; try with_reducible rfl)
    try simp only [Act.put, List.setIfInBounds_toArray, List.set_cons_zero, List.set_cons_succ, List.getElem_toArray, List.getElem_cons_succ, List.getElem_cons_zero]
    refine wpAnyH_take (i := 9) (v := ?_) rfl (by kernel_rfl) (by kernel_rfl) (by kernel_rfl) (fun _ _ _ h => h) (Or.inl ⟨by rfl, ?_⟩) (by assumption) ?_
    rotate_left
    · (intro w hSw; obtain ⟨_, _, q0, q1, q2, q3, q4, q5⟩ := hSw; go_simp; try with_reducible rfl)
    try simp only [Act.put, List.setIfInBounds_toArray, List.set_cons_zero, List.set_cons_succ, List.getElem_toArray, List.getElem_cons_succ, List.getElem_cons_zero]
    refine wpAnyH_take (i := 10) (v := ?_) rfl (by kernel_rfl) (by kernel_rfl) (by kernel_rfl) (fun _ _ _ h => h) (Or.inl ⟨by rfl, ?_⟩) (by assumption) ?_
    rotate_left
    · (intro w hSw; obtain ⟨_, _, q0, q1, q2, q3, q4, q5⟩ := hSw; go_simp; try with_reducible rfl)
    try simp only [Act.put, List.setIfInBounds_toArray, List.set_cons_zero, List.set_cons_succ, List.getElem_toArray, List.getElem_cons_succ, List.getElem_cons_zero]
    refine wpAnyH_take (i := 11) (v := ?_) rfl (by kernel_rfl) (by kernel_rfl) (by kernel_rfl) (fun _ _ _ h => h) (Or.inl ⟨by rfl, ?_⟩) (by assumption) ?_
    rotate_left
    · (intro w hSw; obtain ⟨_, _, q0, q1, q2, q3, q4, q5⟩ := hSw; go_simp; try with_reducible rfl)
    try simp only [Act.put, List.setIfInBounds_toArray, List.set_cons_zero, List.set_cons_succ, List.getElem_toArray, List.getElem_cons_succ, List.getElem_cons_zero]
    refine wpAnyH_take (i := 12) (v := ?_) rfl (by kernel_rfl) (by kernel_rfl) (by kernel_rfl) (fun _ _ _ h => h) (Or.inl ⟨by rfl, ?_⟩) (by assumption) ?_
    rotate_left
    · (intro w hSw; obtain ⟨_, _, q0, q1, q2, q3, q4, q5⟩ := hSw; go_simp; try with_reducible rfl)
    try simp only [Act.put, List.setIfInBounds_toArray, List.set_cons_zero, List.set_cons_succ, List.getElem_toArray, List.getElem_cons_succ, List.getElem_cons_zero]
    refine wpAnyH_take (i := 13) (v := ?_) rfl (by kernel_rfl) (by kernel_rfl) (by kernel_rfl) (fun _ _ _ h => h) (Or.inl ⟨by rfl, ?_⟩) (by assumption) ?_
    rotate_left
    · (intro w hSw; obtain ⟨_, _, q0, q1, q2, q3, q4, q5⟩ := hSw; go_simp; try with_reducible rfl)
    try simp only [Act.put, List.setIfInBounds_toArray, List.set_cons_zero, List.set_cons_succ, List.getElem_toArray, List.getElem_cons_succ, List.getElem_cons_zero]
    refine wpAnyH_take (i := 14) (v := ?_) rfl (by kernel_rfl) (by kernel_rfl) (by kernel_rfl) (fun _ _ _ h => h) (Or.inl ⟨by rfl, ?_⟩) (by assumption) ?_
    rotate_left
    · (intro w hSw; obtain ⟨_, _, q0, q1, q2, q3, q4, q5⟩ := hSw; go_simp; try with_reducible rfl)
    try simp only [Act.put, List.setIfInBounds_toArray, List.set_cons_zero, List.set_cons_succ, List.getElem_toArray, List.getElem_cons_succ, List.getElem_cons_zero]
    refine wpAnyH_take (i := 15) (v := ?_) rfl (by kernel_rfl) (by kernel_rfl) (by kernel_rfl) (fun _ _ _ h => h) (Or.inl ⟨by rfl, ?_⟩) (by assumption) ?_
    rotate_left
    · (intro w hSw; obtain ⟨_, _, q0, q1, q2, q3, q4, q5⟩ := hSw; go_simp; try with_reducible rfl)
    try simp only [Act.put, List.setIfInBounds_toArray, List.set_cons_zero, List.set_cons_succ, List.getElem_toArray, List.getElem_cons_succ, List.getElem_cons_zero]
    refine wpAnyH_take (i := 16) (v := ?_) rfl (by kernel_rfl) (by kernel_rfl) (by kernel_rfl) (fun _ _ _ h => h) (Or.inl ⟨by rfl, ?_⟩) (by assumption) ?_
    rotate_left
    · (intro w hSw; obtain ⟨_, _, q0, q1, q2, q3, q4, q5⟩ := hSw; go_simp; try with_reducible rfl)
    try simp only [Act.put, List.setIfInBounds_toArray, List.set_cons_zero, List.set_cons_succ, List.getElem_toArray, List.getElem_cons_succ, List.getElem_cons_zero]
    refine wpAnyH_take (i := 17) (v := ?_) rfl (by kernel_rfl) (by kernel_rfl) (by kernel_rfl) (fun _ _ _ h => h) (Or.inl ⟨by rfl, ?_⟩) (by assumption) ?_
    rotate_left
    · (intro w hSw; obtain ⟨_, _, q0, q1, q2, q3, q4, q5⟩ := hSw; go_simp; try with_reducible rfl)
    try simp only [Act.put, List.setIfInBounds_toArray, List.set_cons_zero, List.set_cons_succ, List.getElem_toArray, List.getElem_cons_succ, List.getElem_cons_zero]
    refine wpAnyH_take (i := 18) (v := ?_) rfl (by kernel_rfl) (by kernel_rfl) (by kernel_rfl) (fun _ _ _ h => h) (Or.inl ⟨by rfl, ?_⟩) (by assumption) ?_
    rotate_left
    · (intro w hSw; obtain ⟨_, _, q0, q1, q2, q3, q4, q5⟩ := hSw; go_simp; try with_reducible rfl)
    try simp only [Act.put, List.setIfInBounds_toArray, List.set_cons_zero, List.set_cons_succ, List.getElem_toArray, List.getElem_cons_succ, List.getElem_cons_zero]
    refine wpAnyH_take (i := 19) (v := ?_) rfl (by kernel_rfl) (by kernel_rfl) (by kernel_rfl) (fun _ _ _ h => h) (Or.inl ⟨by rfl, ?_⟩) (by assumption) ?_
    rotate_left
    · (intro w hSw; obtain ⟨_, _, q0, q1, q2, q3, q4, q5⟩ := hSw; go_simp; try with_reducible rfl)
    try simp only [Act.put, List.setIfInBounds_toArray, List.set_cons_zero, List.set_cons_succ, List.getElem_toArray, List.getElem_cons_succ, List.getElem_cons_zero]
    refine wpAnyH_take (i := 20) (v := ?_) rfl (by kernel_rfl) (by kernel_rfl) (by kernel_rfl) (fun _ _ _ h => h) (Or.inl ⟨by rfl, ?_⟩) (by assumption) ?_
    rotate_left
    · (intro w hSw; obtain ⟨_, _, q0, q1, q2, q3, q4, q5⟩ := hSw; go_simp; try with_reducible rfl)
    try simp only [Act.put, List.setIfInBounds_toArray, List.set_cons_zero, List.set_cons_succ, List.getElem_toArray, List.getElem_cons_succ, List.getElem_cons_zero]
    refine wpAnyH_take (i := 21) (v := ?_) rfl (by kernel_rfl) (by kernel_rfl) (by kernel_rfl) (fun _ _ _ h => h) (Or.inl ⟨by rfl, ?_⟩) (by assumption) ?_
    rotate_left
    · (intro w hSw; obtain ⟨_, _, q0, q1, q2, q3, q4, q5⟩ := hSw; go_simp; try with_reducible rfl)
    try simp only [Act.put, List.setIfInBounds_toArray, List.set_cons_zero, List.set_cons_succ, List.getElem_toArray, List.getElem_cons_succ, List.getElem_cons_zero]
    refine wpAnyH_take (i := 22) (v := ?_) rfl (by kernel_rfl) (by kernel_rfl) (by kernel_rfl) (fun _ _ _ h => h) (Or.inl ⟨by rfl, ?_⟩) (by assumption) ?_
    rotate_left
    · (intro w hSw; obtain ⟨_, _, q0, q1, q2, q3, q4, q5⟩ := hSw; go_simp; try with_reducible rfl)
    try simp only [Act.put, List.setIfInBounds_toArray, List.set_cons_zero, List.set_cons_succ, List.getElem_toArray, List.getElem_cons_succ, List.getElem_cons_zero]
    refine wpAnyH_take (i := 23) (v := ?_) rfl (by kernel_rfl) (by kernel_rfl) (by kernel_rfl) (fun _ _ _ h => h) (Or.inl ⟨by rfl, ?_⟩) (by assumption) ?_
    rotate_left
    · (intro w hSw; obtain ⟨_, _, q0, q1, q2, q3, q4, q5⟩ := hSw; go_simp; try with_reducible rfl)
    try simp only [Act.put, List.setIfInBounds_toArray, List.set_cons_zero, List.set_cons_succ, List.getElem_toArray, List.getElem_cons_succ, List.getElem_cons_zero]
    refine wpAnyH_take (i := 24) (v := ?_) rfl (by kernel_rfl) (by kernel_rfl) (by kernel_rfl) (fun _ _ _ h => h) (Or.inl ⟨by rfl, ?_⟩) (by assumption) ?_
    rotate_left
    · (intro w hSw; obtain ⟨_, _, q0, q1, q2, q3, q4, q5⟩ := hSw; go_simp; try with_reducible rfl)
    try simp only [Act.put, List.setIfInBounds_toArray, List.set_cons_zero, List.set_cons_succ, List.getElem_toArray, List.getElem_cons_succ, List.getElem_cons_zero]
    refine wpAnyH_take (i := 25) (v := ?_) rfl (by kernel_rfl) (by kernel_rfl) (by kernel_rfl) (fun _ _ _ h => h) (Or.inl ⟨by rfl, ?_⟩) (by assumption) ?_
    rotate_left
    · (intro w hSw; obtain ⟨_, _, q0, q1, q2, q3, q4, q5⟩ := hSw; go_simp; try with_reducible rfl)
    try simp only [Act.put, List.setIfInBounds_toArray, List.set_cons_zero, List.set_cons_succ, List.getElem_toArray, List.getElem_cons_succ, List.getElem_cons_zero]
    refine wpAnyH_take (i := 26) (v := ?_) rfl (by kernel_rfl) (by kernel_rfl) (by kernel_rfl) (fun _ _ _ h => h) (Or.inl ⟨by rfl, ?_⟩) (by assumption) ?_
    rotate_left
    · (intro w hSw; obtain ⟨_, _, q0, q1, q2, q3, q4, q5⟩ := hSw; go_simp; try with_reducible rfl)
    try simp only [Act.put, List.setIfInBounds_toArray, List.set_cons_zero, List.set_cons_succ, List.getElem_toArray, List.getElem_cons_succ, List.getElem_cons_zero]
    refine wpAnyH_take (i := 27) (v := ?_) rfl (by kernel_rfl) (by kernel_rfl) (by kernel_rfl) (fun _ _ _ h => h) (Or.inl ⟨by rfl, ?_⟩) (by assumption) ?_
    rotate_left
    · (intro w hSw; obtain ⟨_, _, q0, q1, q2, q3, q4, q5⟩ := hSw; go_simp; try with_reducible rfl)
    try simp only [Act.put, List.setIfInBounds_toArray, List.set_cons_zero, List.set_cons_succ, List.getElem_toArray, List.getElem_cons_succ, List.getElem_cons_zero]
    refine wpAnyH_take (i := 28) (v := ?_) rfl (by kernel_rfl) (by kernel_rfl) (by kernel_rfl) (fun _ _ _ h => h) (Or.inl ⟨by rfl, ?_⟩) (by assumption) ?_
    rotate_left
    · (intro w hSw; obtain ⟨_, _, q0, q1, q2, q3, q4, q5⟩ := hSw; go_simp; try with_reducible rfl)
    try simp only [Act.put, List.setIfInBounds_toArray, List.set_cons_zero, List.set_cons_succ, List.getElem_toArray, List.getElem_cons_succ, List.getElem_cons_zero]
    refine wpAnyH_take (i := 29) (v := ?_) rfl (by kernel_rfl) (by kernel_rfl) (by kernel_rfl) (fun _ _ _ h => h) (Or.inl ⟨by rfl, ?_⟩) (by assumption) ?_
    rotate_left
    · (intro w hSw; obtain ⟨_, _, q0, q1, q2, q3, q4, q5⟩ := hSw; go_simp; try with_reducible rfl)
    try simp only [Act.put, List.setIfInBounds_toArray, List.set_cons_zero, List.set_cons_succ, List.getElem_toArray, List.getElem_cons_succ, List.getElem_cons_zero]
    refine wpAnyH_take (i := 30) (v := ?_) rfl (by kernel_rfl) (by kernel_rfl) (by kernel_rfl) (fun _ _ _ h => h) (Or.inl ⟨by rfl, ?_⟩) (by assumption) ?_
    rotate_left
    · (intro w hSw; obtain ⟨_, _, q0, q1, q2, q3, q4, q5⟩ := hSw; go_simp; try with_reducible rfl)
    try simp only [Act.put, List.setIfInBounds_toArray, List.set_cons_zero, List.set_cons_succ, List.getElem_toArray, List.getElem_cons_succ, List.getElem_cons_zero]
    refine wpAnyH_take (i := 31) (v := ?_) rfl (by kernel_rfl) (by kernel_rfl) (by kernel_rfl) (fun _ _ _ h => h) (Or.inl ⟨by rfl, ?_⟩) (by assumption) ?_
    rotate_left
    · (intro w hSw; obtain ⟨_, _, q0, q1, q2, q3, q4, q5⟩ := hSw; go_simp; try with_reducible rfl)
    try simp only [Act.put, List.setIfInBounds_toArray, List.set_cons_zero, List.set_cons_succ, List.getElem_toArray, List.getElem_cons_succ, List.getElem_cons_zero]
    refine wpAnyH_take (i := 32) (v := ?_) rfl (by kernel_rfl) (by kernel_rfl) (by kernel_rfl) (fun _ _ _ h => h) (Or.inl ⟨by rfl, ?_⟩) (by assumption) ?_
    rotate_left
    · (intro w hSw; obtain ⟨_, _, q0, q1, q2, q3, q4, q5⟩ := hSw; go_simp; try with_reducible rfl)
    try simp only [Act.put, List.setIfInBounds_toArray, List.set_cons_zero, List.set_cons_succ, List.getElem_toArray, List.getElem_cons_succ, List.getElem_cons_zero]
    refine wpAnyH_ready (rs := [33]) (by kernel_rfl) (by simp) ?_
    refine AllReadyH.cons rfl (fun K hK => ?_) AllReadyH.nil
    go_simp
    have hHeldB := hHeld
    refine hK.out _ _ ?_ (fun hHeld => ?_)
    · exact hHeld.below ((Below.refl _ _).alloc (Nat.le_refl _) _)
    clear hK K
    try simp only [Act.put, List.setIfInBounds_toArray, List.set_cons_zero, List.set_cons_succ, List.getElem_toArray, List.getElem_cons_succ, List.getElem_cons_zero]
    refine wpAnyH_ready (rs := [34]) (by kernel_rfl) (by simp) ?_
    refine AllReadyH.cons rfl (fun K hK => ?_) AllReadyH.nil
    go_simp
    skip
    refine hK.out _ _ ?_ (fun hHeld => ?_)
    · exact hHeldB.below ((Below.refl _ _).alloc (Nat.le_refl _) _)
    clear hK K
    try simp only [Act.put, List.setIfInBounds_toArray, List.set_cons_zero, List.set_cons_succ, List.getElem_toArray, List.getElem_cons_succ, List.getElem_cons_zero]
    refine wpAnyH_done (by kernel_rfl) ?_ _
    dsimp only [Exit.then]
    have hbw := hHeld.1
    have hrw := hHeld.2.1
    have haw : AdAt (W0.alloc (.cells #[.int .u32 H, .int .i64 P] 24)).drew W0.heap.size H P := (ad_new W0 H P).below (drew_below _)
    obtain ⟨W4, hW4⟩ : ∃ V, (W0.alloc (.cells #[.int .u32 H, .int .i64 P] 24)).drew = V := ⟨_, rfl⟩
    rw [hW4] at hbw hrw haw ⊢
    obtain ⟨g, hg⟩ : ∃ g, W0.heap.size = g := ⟨_, rfl⟩
    rw [hg] at haw ⊢
    obtain ⟨⟨t0, t1⟩, _⟩ := hrw.cells
    obtain ⟨⟨r0, r1⟩, _⟩ := haw.cells
    have HB4 := Lib.hid hbw
    have HR4 := Lib.hid hrw
    have HA4 := Lib.hid haw
    obtain ⟨m, hm⟩ : ∃ m, mayA H P = m := ⟨_, rfl⟩
    have KM := Lib.hid (refmay_calls W4 H P HH0.out)
    rw [hm] at KM E
    clear hbw hrw haw hW4 hg hm hHeld hHeldB hS0 m0 m1 m2 m3 m4 m5 m6 m7 k0 k1 k2 k3 k4 k5 o4 o5 l0 l1 l2 l3 l4 l5 l6 l7
    cases m with
    | true =>
      go_wp2_with (go_at_call 23; refine KM.out.mono ?_; rintro e w3 ⟨rfl, hb3⟩; obtain ⟨⟨k0, k1⟩, x0', x1'⟩ := (HR4.out.below hb3).cells; obtain ⟨⟨k2, k3⟩, _⟩ := (HA4.out.below hb3).cells; have HB3 := Lib.hid hb3; clear hb3)
      obtain ⟨V, hV⟩ : ∃ V, (w3.setCell ⟨w.heap.size, 0, none⟩ (.int .u32 H)).setCell ⟨w.heap.size, 1, none⟩ (.int .i64 P) = V := ⟨_, rfl⟩
      have hq : AdAt V w.heap.size H P := by rw [← hV]; exact ((HR4.out.below HB3.out).set0 _).set1 _
      have hbv : Below w.heap.size w V := by rw [← hV]; exact ((HB4.out.trans (HB3.out.mono HB4.out.size)).setCell (p := ⟨w.heap.size, 0, none⟩) (Nat.le_refl _) _).setCell (p := ⟨w.heap.size, 1, none⟩) (Nat.le_refl _) _
      rw [hV]
      exact bodyPost_ret (rfb_results _ hq rfl rfl) rfl ⟨by rw [E.out]; rfl, hbv⟩
    | false =>
      go_wp2_with (go_at_call 23; refine KM.out.mono ?_; rintro e w3 ⟨rfl, hb3⟩; obtain ⟨⟨k0, k1⟩, x0', x1'⟩ := (HR4.out.below hb3).cells; have HB3 := Lib.hid hb3; clear hb3)
      obtain ⟨V, hV⟩ : ∃ V, (w3.setCell ⟨w.heap.size, 0, none⟩ (.int .u32 0)).setCell ⟨w.heap.size, 1, none⟩ (.int .i64 0) = V := ⟨_, rfl⟩
      have hq : AdAt V w.heap.size 0 0 := by rw [← hV]; exact ((HR4.out.below HB3.out).set0 _).set1 _
      have hbv : Below w.heap.size w V := by rw [← hV]; exact ((HB4.out.trans (HB3.out.mono HB4.out.size)).setCell (p := ⟨w.heap.size, 0, none⟩) (Nat.le_refl _) _).setCell (p := ⟨w.heap.size, 1, none⟩) (Nat.le_refl _) _
      rw [hV]
      exact bodyPost_ret (rfb_results _ hq rfl rfl) rfl ⟨by rw [E.out]; rfl, hbv⟩
  · have b1 : ((n : Int) == 6) = false := by rw [beq_eq_false_iff_ne]; omega
    have E := Lib.hid (show fbV l = (0, 0, 3) from if_neg (fun h => h6 (hn.trans h.1)))
    clear h6
    go_wp2
    obtain ⟨V, hV⟩ : ∃ V, (W0.setCell ⟨w.heap.size, 0, none⟩ (.int .u32 0)).setCell ⟨w.heap.size, 1, none⟩ (.int .i64 0) = V := ⟨_, rfl⟩
    have hq : AdAt V w.heap.size 0 0 := by rw [← hV]; exact (HR0.out.set0 0).set1 0
    have hbv : Below w.heap.size w V := by rw [← hV]; exact (HB0.out.setCell (p := ⟨w.heap.size, 0, none⟩) (Nat.le_refl _) _).setCell (p := ⟨w.heap.size, 1, none⟩) (Nat.le_refl _) _
    rw [hV]
    exact bodyPost_ret (rfb_results _ hq rfl rfl) rfl ⟨by rw [E.out], hbv⟩
end Go.Proofs.YtjbhcaifmgbpgaaDoor.Ad
