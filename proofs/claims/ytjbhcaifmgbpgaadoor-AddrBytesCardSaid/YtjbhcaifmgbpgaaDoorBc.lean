/-
  addr: Less; FromBytes. Conditions: as the theorems state them.
-/
import Derived.Test.YtjbhcaifmgbpgaaDoorBb
namespace Go.Proofs.YtjbhcaifmgbpgaaDoor.Ad
open Go Go.RowKit Go.Shelf Go.Proofs.YtjbhcaifmgbpgaaDoorW.PrintWords Go.Proofs.YtjbhcaifmgbpgaaDoorW.PrintLast Go.Proofs.YtjbhcaifmgbpgaaDoorW.PrintMore
set_option linter.unusedVariables false
set_option linter.unusedSimpArgs false
attribute [local go_sem] Oper.semAt_some
def lessA (h1 p1 h2 p2 : Int) : Bool := decide (h1 < h2) || (decide (h1 = h2) && decide (p1 < p2))
set_option maxRecDepth 100000 in
set_option maxHeartbeats 4000000 in
theorem less_calls (w : World) (h1 p1 h2 p2 : Int) : Calls Tryd.prog 25 #[.agg #[.int .u32 h1, .int .i64 p1], .agg #[.int .u32 h2, .int .i64 p2]] w fun e w' => e = .returned (.bool (lessA h1 p1 h2 p2)) ∧ Below w.heap.size w w' := by
  obtain ⟨W1, hW1⟩ : ∃ W, w.alloc (.cells #[.int .u32 h1, .int .i64 p1] 24) = W := ⟨_, rfl⟩
  have hb1 : Below w.heap.size w W1 := by rw [← hW1]; exact (Below.refl _ _).alloc (Nat.le_refl _) _
  have hs1 : W1.heap.size = w.heap.size + 1 := by rw [← hW1, World.size_alloc]
  have ha1 : AdAt W1 w.heap.size h1 p1 := by rw [← hW1]; exact ad_new _ _ _
  obtain ⟨W, hW⟩ : ∃ W, W1.alloc (.cells #[.int .u32 h2, .int .i64 p2] 24) = W := ⟨_, rfl⟩
  have hb2 : Below W1.heap.size W1 W := by rw [← hW]; exact (Below.refl _ _).alloc (Nat.le_refl _) _
  have ha2 : AdAt W (w.heap.size + 1) h2 p2 := by rw [← hW, ← hs1]; exact ad_new _ _ _
  have HB := Lib.hid (hb1.trans (hb2.mono hb1.size))
  have HA1 := Lib.hid (ha1.below hb2)
  have HA2 := Lib.hid ha2
  clear hb1 hb2 ha1 ha2
  go_enter Tryd.func25, Tryd.ntmps25
  go_upto_region 1 with fail
  obtain ⟨⟨c0, c1⟩, _⟩ := HA1.out.cells
  obtain ⟨⟨c2, c3⟩, _⟩ := HA2.out.cells
  clear hW hW1 hs1
  by_cases q1 : h1 < h2
  · have b1 : decide (h1 < h2) = true := decide_eq_true q1
    have E := Lib.hid (show lessA h1 p1 h2 p2 = true by unfold lessA; rw [b1]; rfl)
    clear q1
    go_wp2
    go_ret
    exact ⟨by rw [E.out]; rfl, HB.out⟩
  · have b1 : decide (h1 < h2) = false := decide_eq_false q1
    by_cases q2 : h1 = h2
    · have b2 : (h1 == h2) = true := by simp [q2]
      by_cases q3 : p1 < p2
      · have b3 : decide (p1 < p2) = true := decide_eq_true q3
        have E := Lib.hid (show lessA h1 p1 h2 p2 = true by unfold lessA; rw [b1, b3, decide_eq_true q2]; rfl)
        clear q1 q2 q3
        go_wp2
        go_ret
        exact ⟨by rw [E.out]; rfl, HB.out⟩
      · have b3 : decide (p1 < p2) = false := decide_eq_false q3
        have E := Lib.hid (show lessA h1 p1 h2 p2 = false by unfold lessA; rw [b1, b3, decide_eq_true q2]; rfl)
        clear q1 q2 q3
        go_wp2
        go_ret
        exact ⟨by rw [E.out]; rfl, HB.out⟩
    · have b2 : (h1 == h2) = false := by simpa using q2
      have E := Lib.hid (show lessA h1 p1 h2 p2 = false by unfold lessA; rw [b1, decide_eq_false q2]; rfl)
      clear q1 q2
      go_wp2
      go_ret
      exact ⟨by rw [E.out]; rfl, HB.out⟩
/-! ### FromBytes -/
def hI (l : List Int) : Nat → Int
  | 0 => 0
  | i + 1 => if i < 4 then hI l i * 256 + l.getD i 0 else hI l i
def pI (l : List Int) : Nat → Int
  | 0 => 0
  | i + 1 => if i < 4 then pI l i else pI l i * 256 + l.getD i 0
theorem hI_succ (l : List Int) (i : Nat) : hI l (i + 1) = if i < 4 then hI l i * 256 + l.getD i 0 else hI l i := rfl
theorem pI_succ (l : List Int) (i : Nat) : pI l (i + 1) = if i < 4 then pI l i else pI l i * 256 + l.getD i 0 := rfl
def fbV (l : List Int) : Int × Int × Int := if l.length = 6 ∧ mayA (hI l 6) (pI l 6) = true then (hI l 6, pI l 6, 0) else (0, 0, 3)
def InB (l : List Int) : Prop := ∀ x ∈ l, 0 ≤ x ∧ x ≤ 255
theorem InB.at {l : List Int} (h : InB l) (i : Nat) : 0 ≤ l.getD i 0 ∧ l.getD i 0 ≤ 255 := by
  rw [List.getD_eq_getElem?_getD]
  cases hx : l[i]? with
  | none => exact ⟨by decide, by decide⟩
  | some x => exact h x (List.mem_of_getElem? hx)
theorem hI_in {l : List Int} (h : InB l) (i : Nat) (hi : i ≤ 3) : 0 ≤ hI l i ∧ hI l i ≤ 16777215 := by
  have h0 := h.at 0
  have h1 := h.at 1
  have h2 := h.at 2
  have e1 : hI l 1 = 0 * 256 + l.getD 0 0 := rfl
  have e2 : hI l 2 = hI l 1 * 256 + l.getD 1 0 := rfl
  have e3 : hI l 3 = hI l 2 * 256 + l.getD 2 0 := rfl
  match i, hi with
  | 0, _ => show (0 : Int) ≤ 0 ∧ (0 : Int) ≤ 16777215; decide
  | 1, _ => omega
  | 2, _ => omega
  | 3, _ => omega
theorem pI_in {l : List Int} (h : InB l) (i : Nat) (hi : i ≤ 6) : 0 ≤ pI l i ∧ pI l i ≤ 16777215 := by
  have h4 := h.at 4
  have h5 := h.at 5
  have e5 : pI l 5 = 0 * 256 + l.getD 4 0 := rfl
  have e6 : pI l 6 = pI l 5 * 256 + l.getD 5 0 := rfl
  match i, hi with
  | 0, _ => show (0 : Int) ≤ 0 ∧ (0 : Int) ≤ 16777215; decide
  | 1, _ => show (0 : Int) ≤ 0 ∧ (0 : Int) ≤ 16777215; decide
  | 2, _ => show (0 : Int) ≤ 0 ∧ (0 : Int) ≤ 16777215; decide
  | 3, _ => show (0 : Int) ≤ 0 ∧ (0 : Int) ≤ 16777215; decide
  | 4, _ => show (0 : Int) ≤ 0 ∧ (0 : Int) ≤ 16777215; decide
  | 5, _ => omega
  | 6, _ => omega
theorem AdAt.set0 {w : World} {g : Nat} {h p : Int} (q : AdAt w g h p) (z : Int) : AdAt (w.setCell ⟨g, 0, none⟩ (.int .u32 z)) g z p := set_cellsN 0 q rfl
theorem AdAt.set1 {w : World} {g : Nat} {h p : Int} (q : AdAt w g h p) (z : Int) : AdAt (w.setCell ⟨g, 1, none⟩ (.int .i64 z)) g h z := set_cellsN 1 q rfl
theorem AdAt.other {w : World} {g : Nat} {h p : Int} (q : AdAt w g h p) {a : Addr} (hp : g ≠ a.block) (v : Value) : AdAt (w.setCell a v) g h p := (Below.heap_setCell _ _ _ _ hp).trans q
theorem fb_results {V : World} {g : Nat} {h p c : Int} (tmps : Array Value) (hq : AdAt V g h p) (h2 : tmps[2]?.getD undef = .pointer (some ⟨g, 0, none⟩)) (h3 : tmps[3]?.getD undef = .int .i64 c) :
    (results Tryd.f20 tmps).run Tryd.prog V = .ok (.tuple #[.agg #[.int .u32 h, .int .i64 p], .int .i64 c]) V := by
  obtain ⟨r0, r1⟩ := hq.cells.1
  simp [results, Tryd.f20, go_sem, h2, h3, r0, r1, Result.andThen]
set_option maxRecDepth 100000 in
set_option maxHeartbeats 8000000 in
theorem fb_calls (w : World) (A : Option Addr) (n c : Nat) (l : List Int) (hn : n = l.length) (hr : Row8 w A l) (hc : n ≤ c) (hb : InB l) : Calls Tryd.prog 20 #[.slice A n c] w fun e w' => e = .returned (.tuple #[.agg #[.int .u32 (fbV l).1, .int .i64 (fbV l).2.1], .int .i64 (fbV l).2.2]) ∧ Below w.heap.size w w' := by
  have HR := Lib.hid hr
  have HI := Lib.hid hb
  clear hr hb
  go_enter Tryd.func20, Tryd.ntmps20
  go_upto_region 1 with fail
  obtain ⟨W0, hW0⟩ : ∃ W0, w.alloc (.cells #[.int .u32 0, .int .i64 0] 24) = W0 := ⟨_, rfl⟩
  have hb0 : Below w.heap.size w W0 := by rw [← hW0]; exact (Below.refl _ _).alloc (Nat.le_refl _) _
  have hR0 : AdAt W0 w.heap.size 0 0 := by rw [← hW0]; exact ad_new _ _ _
  have hs0 : W0.heap.size = w.heap.size + 1 := by rw [← hW0]; simp
  rw [hW0]
  obtain ⟨⟨r0, r1⟩, z0, z1⟩ := hR0.cells
  have HB0 := Lib.hid hb0
  have HR0 := Lib.hid hR0
  have HS0 := Lib.hid hs0
  clear hW0 hb0 hR0 hs0
  by_cases h6 : n = 6
  · subst h6
    have HN := Lib.hid hn
    clear hn
    go_upto_region 4 with fail
    obtain ⟨W1, hW1⟩ : ∃ W1, W0.alloc (.cells #[.int .u32 0, .int .i64 0] 24) = W1 := ⟨_, rfl⟩
    have hb1 : Below W0.heap.size W0 W1 := by rw [← hW1]; exact (Below.refl _ _).alloc (Nat.le_refl _) _
    have hR1 : AdAt W1 W0.heap.size 0 0 := by rw [← hW1]; exact ad_new _ _ _
    rw [hW1]
    obtain ⟨g, hg⟩ : ∃ g, W0.heap.size = g := ⟨_, rfl⟩
    have HG : Hid (g = w.heap.size + 1) := Lib.hid (hg.symm.trans HS0.out)
    have HB1 := Lib.hid (HB0.out.trans (hb1.mono HB0.out.size))
    have HR1 := Lib.hid (HR0.out.below hb1)
    rw [hg] at hR1 ⊢
    have HA1 := Lib.hid hR1
    clear hW1 hb1 hR1 r0 r1 z0 z1 hg
    go_upto_region 5 with fail
    go_loopw [13] (fun v13 wr => ∃ i : Nat, v13 = .int .i64 i ∧ i ≤ 6 ∧ Hid (AdAt wr w.heap.size 0 0) ∧ Hid (AdAt wr g (hI l i) (pI l i)) ∧ Hid (Below w.heap.size w wr)) (fun v13 _ => 6 - (intOf v13).toNat)
    case atStart => exact ⟨0, rfl, Nat.zero_le _, HR1, HA1, HB1⟩
    case round =>
      obtain ⟨i, rfl, hi, HR2, HA2, HB2⟩ := hrel
      obtain ⟨⟨r0, r1⟩, z0, z1⟩ := HA2.out.cells
      by_cases hlt : i < 6
      · have b0 : decide ((i : Int) < 6) = true := decide_eq_true (by omega)
        have b2 : (i : Int) < 6 := by omega
        obtain ⟨ad, rfl, hx⟩ := (HR.out.below HB2.out) i (by have := HN.out; omega)
        have hbx := HI.out.at i
        have hxe : l[i]'(by have := HN.out; omega) = l.getD i 0 := by rw [List.getD_eq_getElem?_getD, List.getElem?_eq_getElem (by have := HN.out; omega)]; rfl
        rw [hxe] at hx
        have hp := pI_in HI.out i hi
        obtain ⟨P, hP⟩ : ∃ P, pI l i = P := ⟨_, rfl⟩
        obtain ⟨H, hH⟩ : ∃ H, hI l i = H := ⟨_, rfl⟩
        obtain ⟨x, hxx⟩ : ∃ x, l.getD i 0 = x := ⟨_, rfl⟩
        have hh := fun h3 => hI_in HI.out i h3
        rw [hH] at hh r0
        rw [hP] at hp r1
        rw [hxx] at hx hbx
        have SH := Lib.hid (hI_succ l i)
        have SP := Lib.hid (pI_succ l i)
        have HX := Lib.hid (And.intro hH (And.intro hP hxx))
        clear hxe hH hP hxx
        by_cases h4 : i < 4
        · have b4 : decide ((i : Int) < 4) = true := decide_eq_true (by omega)
          have b5 : decide (i < 4) = true := decide_eq_true h4
          have hh2 := hh (by omega)
          have q2 : Go.bits .or .u32 (H * 256 % 4294967296) x = H * 256 + x := by
            have := or32 H x hh2.1 hh2.2 hbx.1 hbx.2
            rwa [show x % 4294967296 = x by omega] at this
          have H4 := Lib.hid h4
          clear hh hh2 h4 hp
          go_wp2
          go_roundw
          case rel =>
            refine ⟨i + 1, by go_num, by omega, Lib.hid (HR2.out.other (by show w.heap.size ≠ g; have := HG.out; omega) _), Lib.hid ?_, Lib.hid (HB2.out.setCell (p := ⟨g, 0, none⟩) (by show w.heap.size ≤ g; have := HG.out; omega) _)⟩
            rw [SH.out, SP.out, if_pos H4.out, if_pos H4.out, HX.out.1, HX.out.2.2]
            exact HA2.out.set0 _
          case measure => simp [intOf]; omega
        · have b4 : decide ((i : Int) < 4) = false := decide_eq_false (by omega)
          have b5 : decide (i < 4) = false := decide_eq_false h4
          have q2 : Go.bits .or .i64 (wrap64 (P * 256)) x = P * 256 + x := by
            have := or64 P x hp.1 hp.2 hbx.1 hbx.2
            rwa [show wrap64 x = x by unfold wrap64; omega] at this
          have H4 := Lib.hid h4
          clear hh h4 hp
          go_wp2
          go_roundw
          case rel =>
            refine ⟨i + 1, by go_num, by omega, Lib.hid (HR2.out.other (by show w.heap.size ≠ g; have := HG.out; omega) _), Lib.hid ?_, Lib.hid (HB2.out.setCell (p := ⟨g, 1, none⟩) (by show w.heap.size ≤ g; have := HG.out; omega) _)⟩
            rw [SH.out, SP.out, if_neg H4.out, if_neg H4.out, HX.out.2.1, HX.out.2.2]
            exact HA2.out.set1 _
          case measure => simp [intOf]; omega
      · have b0 : decide ((i : Int) < 6) = false := decide_eq_false (by omega)
        obtain rfl : i = 6 := by omega
        obtain ⟨⟨t0, t1⟩, y0, y1⟩ := HR2.out.cells
        obtain ⟨P, hP⟩ : ∃ P, pI l 6 = P := ⟨_, rfl⟩
        obtain ⟨H, hH⟩ : ∃ H, hI l 6 = H := ⟨_, rfl⟩
        rw [hH] at r0
        rw [hP] at r1
        obtain ⟨m, hm⟩ : ∃ m, mayA H P = m := ⟨_, rfl⟩
        have KM := Lib.hid (may_calls wr H P)
        rw [hm] at KM
        have E : Hid (fbV l = if m = true then (H, P, 0) else (0, 0, 3)) := Lib.hid (by
          unfold fbV
          rw [hH, hP, hm]
          cases m
          · rw [if_neg (fun h => by cases h.2), if_neg (by decide)]
          · rw [if_pos ⟨HN.out.symm, rfl⟩, if_pos rfl])
        clear hH hP hm hlt hi
        cases m with
        | true =>
          go_wp2_with (go_at_call 17; refine KM.out.mono ?_; rintro e w3 ⟨rfl, hb3⟩; obtain ⟨⟨k0, k1⟩, x0, x1⟩ := (HR2.out.below hb3).cells; have HB3 := Lib.hid hb3; have k2 := (hb3.cell (World.block_lt_of_cell? _ _ r0)).trans r0; have k3 := (hb3.cell (World.block_lt_of_cell? _ _ r1)).trans r1; clear hb3)
          obtain ⟨V, hV⟩ : ∃ V, (w3.setCell ⟨w.heap.size, 0, none⟩ (.int .u32 H)).setCell ⟨w.heap.size, 1, none⟩ (.int .i64 P) = V := ⟨_, rfl⟩
          have hq : AdAt V w.heap.size H P := by rw [← hV]; exact ((HR2.out.below HB3.out).set0 _).set1 _
          have hbv : Below w.heap.size w V := by rw [← hV]; exact ((HB2.out.trans (HB3.out.mono HB2.out.size)).setCell (p := ⟨w.heap.size, 0, none⟩) (Nat.le_refl _) _).setCell (p := ⟨w.heap.size, 1, none⟩) (Nat.le_refl _) _
          rw [hV]
          exact bodyPost_ret (fb_results _ hq rfl rfl) rfl ⟨by rw [E.out]; rfl, hbv⟩
        | false =>
          go_wp2_with (go_at_call 17; refine KM.out.mono ?_; rintro e w3 ⟨rfl, hb3⟩; obtain ⟨⟨k0, k1⟩, x0, x1⟩ := (HR2.out.below hb3).cells; have HB3 := Lib.hid hb3; clear hb3)
          obtain ⟨V, hV⟩ : ∃ V, (w3.setCell ⟨w.heap.size, 0, none⟩ (.int .u32 0)).setCell ⟨w.heap.size, 1, none⟩ (.int .i64 0) = V := ⟨_, rfl⟩
          have hq : AdAt V w.heap.size 0 0 := by rw [← hV]; exact ((HR2.out.below HB3.out).set0 _).set1 _
          have hbv : Below w.heap.size w V := by rw [← hV]; exact ((HB2.out.trans (HB3.out.mono HB2.out.size)).setCell (p := ⟨w.heap.size, 0, none⟩) (Nat.le_refl _) _).setCell (p := ⟨w.heap.size, 1, none⟩) (Nat.le_refl _) _
          rw [hV]
          exact bodyPost_ret (fb_results _ hq rfl rfl) rfl ⟨by rw [E.out]; rfl, hbv⟩
  · have b1 : ((n : Int) == 6) = false := by rw [beq_eq_false_iff_ne]; omega
    have E := Lib.hid (show fbV l = (0, 0, 3) from if_neg (fun h => h6 (hn.trans h.1)))
    clear h6
    go_wp2
    obtain ⟨V, hV⟩ : ∃ V, (W0.setCell ⟨w.heap.size, 0, none⟩ (.int .u32 0)).setCell ⟨w.heap.size, 1, none⟩ (.int .i64 0) = V := ⟨_, rfl⟩
    have hq : AdAt V w.heap.size 0 0 := by rw [← hV]; exact (HR0.out.set0 0).set1 0
    have hbv : Below w.heap.size w V := by rw [← hV]; exact (HB0.out.setCell (p := ⟨w.heap.size, 0, none⟩) (Nat.le_refl _) _).setCell (p := ⟨w.heap.size, 1, none⟩) (Nat.le_refl _) _
    rw [hV]
    exact bodyPost_ret (fb_results _ hq rfl rfl) rfl ⟨by rw [E.out], hbv⟩
end Go.Proofs.YtjbhcaifmgbpgaaDoor.Ad
