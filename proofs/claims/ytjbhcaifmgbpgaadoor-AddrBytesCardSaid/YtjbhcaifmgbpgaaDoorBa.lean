/-
  addr: rows of bytes; the document's Same; cmp.Compare, cmp.Or, Compare; Less. Conditions: as the theorems state them.
-/
import Derived.Test.YtjbhcaifmgbpgaaDoorAd
import Derived.Test.YtjbhcaifmgbpgaaDoorWFoot
import Derived.BigQuiet
namespace Go.Proofs.YtjbhcaifmgbpgaaDoor.Ad
open Go Go.RowKit Go.Shelf Go.Proofs.YtjbhcaifmgbpgaaDoorW.PrintWords Go.Proofs.YtjbhcaifmgbpgaaDoorW.PrintLast Go.Proofs.YtjbhcaifmgbpgaaDoorW.PrintMore
set_option linter.unusedVariables false
set_option linter.unusedSimpArgs false
attribute [local go_sem] Oper.semAt_some
def Row8 (w : World) (A : Option Addr) (l : List Int) : Prop := ∀ i (hi : i < l.length), ∃ ad, A = some ad ∧ w.cell? (ad.add i) = some (.int .u8 l[i])
theorem Row8.below {w w' : World} {A : Option Addr} {l : List Int} (h : Row8 w A l) (hb : Below w.heap.size w w') : Row8 w' A l := fun i hi => by
  obtain ⟨ad, e, hc⟩ := h i hi
  exact ⟨ad, e, (hb.cell (World.block_lt_of_cell? _ _ hc)).trans hc⟩
theorem row8_block {w : World} {g t : Nat} {l : List Int} (h : w.heap[g]? = some (.cells (l.map (Value.int .u8)).toArray t (0, 0))) : Row8 w (some ⟨g, 0, none⟩) l := fun i hi => by
  refine ⟨_, rfl, ?_⟩
  have hc := cell_cellsN h i (by simpa using hi)
  have e : (⟨g, 0, none⟩ : Addr).add i = ⟨g, i, none⟩ := by simp [Addr.add]; try omega
  rw [e, hc]
  simp
theorem row8_none (w : World) (A : Option Addr) : Row8 w A [] := fun i hi => by simp at hi
theorem row8_C {w : World} {A : Option Addr} {l : List Int} (h : (Kd.int .u8).C w A l.length l) : Row8 w A l := fun i hi => by
  obtain ⟨ad, e, hx⟩ := Kd.at_int h (i : Int) (by omega) (by omega)
  have rx : rd l (i : Int) = l[i] := by simp [rd, hi]
  rw [rx, Int.toNat_natCast] at hx
  exact ⟨ad, e, hx⟩
theorem take_snocA (l : List Int) (i : Nat) (h : i < l.length) : l.take (i + 1) = l.take i ++ [l[i]] := by
  rw [List.take_succ_eq_append_getElem h]
set_option maxRecDepth 100000 in
set_option maxHeartbeats 2000000 in
theorem same_calls (w : World) (A0 : Option Addr) (c0 : Nat) (l0 : List Int) (A1 : Option Addr) (c1 : Nat) (l1 : List Int) (hr0 : Row8 w A0 l0) (hc0 : l0.length ≤ c0) (hr1 : Row8 w A1 l1) (hc1 : l1.length ≤ c1) (hl : l0.length ≤ 140737488355328) :
    Calls Tryd.prog 19 #[.slice A0 l0.length c0, .slice A1 l1.length c1] w fun e w' => e = .returned (.bool (decide (l0 = l1))) ∧ Drawn0 w w' := by
  have H0 := Lib.hid hr0
  have H1 := Lib.hid hr1
  clear hr0 hr1
  obtain ⟨R, hR⟩ : ∃ R, decide (l0 = l1) = R := ⟨_, rfl⟩
  rw [hR]
  have HR := Lib.hid hR
  clear hR
  by_cases hn : l0.length = l1.length
  · have g0 : ((l0.length : Int) == (l1.length : Int)) = true := by simp [hn]
    have Hn := Lib.hid hn
    have hle : l0.length ≤ l1.length := by omega
    clear hn
    go_enter Tryd.func19, Tryd.ntmps19
    go_wp2
    go_loopw [5] (fun v5 wr => ∃ i : Nat, v5 = .int .i64 i ∧ i ≤ l0.length ∧ Hid (l0.take i = l1.take i) ∧ Drawn0 w wr) (fun v5 _ => l0.length - (intOf v5).toNat)
    case atStart => exact ⟨0, rfl, Nat.zero_le _, Lib.hid (by simp), Drawn0.refl w⟩
    case round =>
      obtain ⟨i, rfl, hi, HT, hd⟩ := hrel
      by_cases hlt : i < l0.length
      · have b0 : decide ((i : Int) < (l0.length : Int)) = true := decide_eq_true (by omega)
        have b1 : (i : Int) < (l0.length : Int) := by omega
        have b2 : (i : Int) < (l1.length : Int) := by omega
        obtain ⟨ad, rfl, hx⟩ := (H0.out.below hd.below) i hlt
        obtain ⟨ad1, rfl, hx1⟩ := (H1.out.below hd.below) i (by omega)
        obtain ⟨x, hxe⟩ : ∃ x, l0[i] = x := ⟨_, rfl⟩
        obtain ⟨y, hye⟩ : ∃ y, l1[i]'(by omega) = y := ⟨_, rfl⟩
        rw [hxe] at hx
        rw [hye] at hx1
        have HX := Lib.hid hxe
        have HY := Lib.hid hye
        clear hxe hye
        by_cases hxy : x = y
        · subst hxy
          have q1 : (x == x) = true := by simp
          go_wp2
          go_quiet (fail)
          go_wp2
          go_roundw
          case rel => exact ⟨i + 1, by go_num, by omega, Lib.hid (by rw [take_snocA _ _ hlt, take_snocA _ _ (by omega), HT.out, HX.out, HY.out]), hd.step _⟩
          case measure => simp [intOf]; omega
        · have q1 : (x == y) = false := by simpa using hxy
          have hne : decide (l0 = l1) = false := decide_eq_false (fun e => by subst e; exact hxy (HX.out.symm.trans HY.out))
          have HE := Lib.hid (HR.out.symm.trans hne)
          clear hxy hne
          go_wp2
          go_quiet (fail)
          go_wp2
          go_ret
          exact ⟨by rw [HE.out]; rfl, hd.step _⟩
      · have b0 : decide ((i : Int) < (l0.length : Int)) = false := decide_eq_false (by omega)
        have hne : decide (l0 = l1) = true := decide_eq_true (by have h := HT.out; have hn := Hn.out; rw [List.take_of_length_le (by omega), List.take_of_length_le (by omega)] at h; exact h)
        have HE := Lib.hid (HR.out.symm.trans hne)
        clear hne
        go_wp2
        go_ret
        exact ⟨by rw [HE.out]; rfl, hd⟩
  · have g0 : ((l0.length : Int) == (l1.length : Int)) = false := by simpa using (by omega : ¬ (l0.length : Int) = l1.length)
    have hne : decide (l0 = l1) = false := decide_eq_false (fun e => hn (by rw [e]))
    have HE := Lib.hid (HR.out.symm.trans hne)
    clear hne hn
    go_enter Tryd.func19, Tryd.ntmps19
    go_wp2
    go_ret
    exact ⟨by rw [HE.out]; rfl, Drawn0.refl w⟩
/-! ### cmp -/
set_option maxRecDepth 100000 in
theorem nan32_calls (w : World) (x : Int) : Calls Tryd.prog 39 #[.int .u32 x] w fun e w' => e = .returned (.bool false) ∧ w = w' := by
  have q : (x == x) = true := by simp
  go_enter Tryd.func39, Tryd.ntmps39
  go_wp2
  go_ret
  exact ⟨rfl, rfl⟩
set_option maxRecDepth 100000 in
set_option maxHeartbeats 2000000 in
theorem cmp32_calls (w : World) (x y : Int) : Calls Tryd.prog 33 #[.int .u32 x, .int .u32 y] w fun e w' => e = .returned (.int .i64 (Lib.compareInt x y)) ∧ w = w' := by
  have K := Lib.hid nan32_calls
  go_enter Tryd.func33, Tryd.ntmps33
  by_cases h1 : x < y
  · have b1 : decide (x < y) = true := decide_eq_true h1
    have e1 : Lib.compareInt x y = -1 := by unfold Lib.compareInt; rw [if_pos h1]
    rw [e1]
    clear h1 e1
    go_wp2_with (go_at_call 39; refine (K.out _ _).mono ?_; rintro e w1 ⟨rfl, rfl⟩)
    go_ret
    exact ⟨rfl, rfl⟩
  · have b1 : decide (x < y) = false := decide_eq_false h1
    by_cases h2 : x > y
    · have b2 : decide (x > y) = true := decide_eq_true h2
      have b3 : decide (y < x) = true := decide_eq_true h2
      have e1 : Lib.compareInt x y = 1 := by unfold Lib.compareInt; rw [if_neg h1, if_pos h2]
      rw [e1]
      clear h1 e1 h2
      go_wp2_with (go_at_call 39; refine (K.out _ _).mono ?_; rintro e w1 ⟨rfl, rfl⟩)
      go_ret
      exact ⟨rfl, rfl⟩
    · have b2 : decide (x > y) = false := decide_eq_false h2
      have b3 : decide (y < x) = false := decide_eq_false h2
      have e1 : Lib.compareInt x y = 0 := by unfold Lib.compareInt; rw [if_neg h1, if_neg h2]
      rw [e1]
      clear h1 e1 h2
      go_wp2_with (go_at_call 39; refine (K.out _ _).mono ?_; rintro e w1 ⟨rfl, rfl⟩)
      go_ret
      exact ⟨rfl, rfl⟩
def orI (a b : Int) : Int := if a = 0 then b else a
set_option maxRecDepth 100000 in
set_option maxHeartbeats 2000000 in
theorem or_calls (w : World) (g : Nat) (a b : Int) (h0 : w.cell? ⟨g, 0, none⟩ = some (.int .i64 a)) (h1 : w.cell? ⟨g, 1, none⟩ = some (.int .i64 b)) : Calls Tryd.prog 32 #[.slice (some ⟨g, 0, none⟩) 2 2] w fun e w' => e = .returned (.int .i64 (orI a b)) ∧ w = w' := by
  have H0 := Lib.hid h0
  have H1 := Lib.hid h1
  go_enter Tryd.func32, Tryd.ntmps32
  go_wp2
  go_loopw [8] (fun v8 wr => w = wr ∧ ((v8 = .int .i64 0) ∨ (v8 = .int .i64 1 ∧ a = 0) ∨ (v8 = .int .i64 2 ∧ a = 0 ∧ b = 0))) (fun v8 _ => 2 - (intOf v8).toNat)
  case atStart => exact ⟨rfl, .inl rfl⟩
  case round =>
    obtain ⟨rfl, hv⟩ := hrel
    rcases hv with rfl | ⟨rfl, ha⟩ | ⟨rfl, ha, hb⟩
    · by_cases q : a = 0
      · have b1 : (a == 0) = true := by simp [q]
        have HA := Lib.hid q
        clear q
        go_wp2
        go_roundw
        case rel => exact ⟨(by first | rfl | trivial), .inr (.inl ⟨rfl, HA.out⟩)⟩
        case measure => simp [intOf]
      · have b1 : (a == 0) = false := by simpa using q
        have e : orI a b = a := by unfold orI; rw [if_neg q]
        have E := Lib.hid e
        clear q e
        go_wp2
        go_ret
        exact ⟨by rw [E.out]; rfl, rfl⟩
    · by_cases q : b = 0
      · have b1 : (b == 0) = true := by simp [q]
        have HA := Lib.hid (And.intro ha q)
        clear q ha
        go_wp2
        go_roundw
        case rel => exact ⟨(by first | rfl | trivial), .inr (.inr ⟨rfl, HA.out⟩)⟩
        case measure => simp [intOf]
      · have b1 : (b == 0) = false := by simpa using q
        have e : orI a b = b := by unfold orI; rw [if_pos ha]
        have E := Lib.hid e
        clear q e ha
        go_wp2
        go_ret
        exact ⟨by rw [E.out]; rfl, rfl⟩
    · have e : orI a b = 0 := by unfold orI; rw [if_pos ha, hb]
      have E := Lib.hid e
      clear e ha hb
      go_wp2
      go_ret
      exact ⟨by rw [E.out]; rfl, rfl⟩
/-! ### Compare -/
def cmpA (h1 p1 h2 p2 : Int) : Int := orI (Lib.compareInt h1 h2) (Lib.compareInt p1 p2)
def AdAt (w : World) (g : Nat) (h p : Int) : Prop := w.heap[g]? = some (.cells #[.int .u32 h, .int .i64 p] 24 (0, 0))
theorem AdAt.below {w w' : World} {g : Nat} {h p : Int} (q : AdAt w g h p) (hb : Below w.heap.size w w') : AdAt w' g h p := (hb.block g (Array.getElem?_eq_some_iff.1 q).1).trans q
theorem AdAt.cells {w : World} {g : Nat} {h p : Int} (q : AdAt w g h p) : (w.cell? ⟨g, 0, none⟩ = some (.int .u32 h) ∧ w.cell? ⟨g, 1, none⟩ = some (.int .i64 p)) ∧ (w.frozen? ⟨g, 0, none⟩ = false ∧ w.frozen? ⟨g, 1, none⟩ = false) :=
  ⟨⟨cell_cellsN q 0 (by simp), cell_cellsN q 1 (by simp)⟩, frozen_cellsN q 0, frozen_cellsN q 1⟩
theorem ad_new (w : World) (h p : Int) : AdAt (w.alloc (.cells #[.int .u32 h, .int .i64 p] 24)) w.heap.size h p := new_cellsN _ _ _
end Go.Proofs.YtjbhcaifmgbpgaaDoor.Ad
