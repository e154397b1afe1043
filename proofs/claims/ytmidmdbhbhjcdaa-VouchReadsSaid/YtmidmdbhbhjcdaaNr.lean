/-
  The reference's notary (is, Mint, Check) and the row of bytes that is like another (Same): what each answers and what it leaves. Conditions: the entries' texts are bytes, there are at most a million.
-/
import Derived.Test.YtmidmdbhbhjcdaaNtC
import Derived.Test.YtmidmdbhbhjcdaaWFoot
import Derived.Deep.DeepCutAuto
namespace Go.Proofs.Ytmidmdbhbhjcdaa.Nt
open Go.RowKit Go.Maps Go.Proofs.YtmidmdbhbhjcdaaW.PrintWords Go.Proofs.YtmidmdbhbhjcdaaW.PrintLast Go.Proofs.YtmidmdbhbhjcdaaW.PrintMore
set_option linter.unusedVariables false
set_option linter.unusedSimpArgs false
theorem take_snoc (l : List Int) (i : Nat) (h : i < l.length) : l.take (i + 1) = l.take i ++ [l[i]] := by
  rw [List.take_succ_eq_append_getElem h]
theorem cell_of_C {k : IntKind} {w : World} {A : Option Addr} {n : Nat} {xs : List Int} (h : (Kd.int k).C w A n xs) (i : Nat) (h1 : i < xs.length) (hn : n = xs.length) : ∃ ad, A = some ad ∧ w.cell? (ad.add i) = some (.int k xs[i]) := by
  obtain ⟨ad, e, hx⟩ := Kd.at_int h (i : Int) (by omega) (by omega)
  have rx : rd xs (i : Int) = xs[i] := by simp [rd, h1]
  rw [rx, Int.toNat_natCast] at hx
  exact ⟨ad, e, hx⟩
set_option maxRecDepth 100000 in
set_option maxHeartbeats 2000000 in
theorem same_calls (w : World) (A0 : Option Addr) (c0 : Nat) (l0 : List Int) (A1 : Option Addr) (c1 : Nat) (l1 : List Int) (hr0 : Kd.C (Kd.int .u8) w A0 l0.length l0) (hc0 : l0.length ≤ c0) (hr1 : Kd.C (Kd.int .u8) w A1 l1.length l1) (hc1 : l1.length ≤ c1) (hl : l0.length ≤ 140737488355328) :
    Calls Try.prog 19 #[.slice A0 l0.length c0, .slice A1 l1.length c1] w fun e w' => e = .returned (.bool (decide (l0 = l1))) ∧ Drawn0 w w' := by
  have H0 := Lib.hid hr0
  have H1 := Lib.hid hr1
  clear hr0 hr1
  obtain ⟨R, hR⟩ : ∃ R, decide (l0 = l1) = R := ⟨_, rfl⟩
  rw [hR]
  have HR := Lib.hid hR
  clear hR
  by_cases hn : l0.length = l1.length
  · have g0 : ((l0.length : Int) == (l1.length : Int)) = true := by simp [hn]
    have Hn := Lib.hid hn
    have hle : l0.length ≤ l1.length := by omega
    clear hn
    go_enter Try.func19, Try.ntmps19
    go_wp2
    go_loopw [5] (fun v5 wr => ∃ i : Nat, v5 = .int .i64 i ∧ i ≤ l0.length ∧ Hid (l0.take i = l1.take i) ∧ Drawn0 w wr) (fun v5 _ => l0.length - (intOf v5).toNat)
    case atStart => exact ⟨0, rfl, Nat.zero_le _, Lib.hid (by simp), Drawn0.refl w⟩
    case round =>
      obtain ⟨i, rfl, hi, HT, hd⟩ := hrel
      by_cases hlt : i < l0.length
      · have b0 : decide ((i : Int) < (l0.length : Int)) = true := decide_eq_true (by omega)
        have b1 : (i : Int) < (l0.length : Int) := by omega
        have b2 : (i : Int) < (l1.length : Int) := by omega
        obtain ⟨ad, rfl, hx⟩ := cell_of_C (Kd.C_below H0.out hd.below) i hlt rfl
        obtain ⟨ad1, rfl, hx1⟩ := cell_of_C (Kd.C_below H1.out hd.below) i (by omega) rfl
        obtain ⟨x, hxe⟩ : ∃ x, l0[i] = x := ⟨_, rfl⟩
        obtain ⟨y, hye⟩ : ∃ y, l1[i]'(by omega) = y := ⟨_, rfl⟩
        rw [hxe] at hx
        rw [hye] at hx1
        have HX := Lib.hid hxe
        have HY := Lib.hid hye
        clear hxe hye
        by_cases hxy : x = y
        · subst hxy
          have q1 : (x == x) = true := by simp
          go_wp2
          go_quiet (fail)
          go_wp2
          go_roundw
          case rel => exact ⟨i + 1, by go_num, by omega, Lib.hid (by rw [take_snoc _ _ hlt, take_snoc _ _ (by omega), HT.out, HX.out, HY.out]), hd.step _⟩
          case measure => simp [intOf]; omega
        · have q1 : (x == y) = false := by simpa using hxy
          have hne : decide (l0 = l1) = false := decide_eq_false (fun e => by subst e; exact hxy (HX.out.symm.trans HY.out))
          have HE := Lib.hid (HR.out.symm.trans hne)
          clear hxy hne
          go_wp2
          go_quiet (fail)
          go_wp2
          go_ret
          exact ⟨by rw [HE.out]; rfl, hd.step _⟩
      · have b0 : decide ((i : Int) < (l0.length : Int)) = false := decide_eq_false (by omega)
        have hne : decide (l0 = l1) = true := decide_eq_true (by have h := HT.out; have hn := Hn.out; rw [List.take_of_length_le (by omega), List.take_of_length_le (by omega)] at h; exact h)
        have HE := Lib.hid (HR.out.symm.trans hne)
        clear hne
        go_wp2
        go_ret
        exact ⟨by rw [HE.out]; rfl, hd⟩
  · have g0 : ((l0.length : Int) == (l1.length : Int)) = false := by simpa using (by omega : ¬ (l0.length : Int) = l1.length)
    have hne : decide (l0 = l1) = false := decide_eq_false (fun e => hn (by rw [e]))
    have HE := Lib.hid (HR.out.symm.trans hne)
    clear hne hn
    go_enter Try.func19, Try.ntmps19
    go_wp2
    go_ret
    exact ⟨by rw [HE.out]; rfl, Drawn0.refl w⟩
/-! ### the reference's notary in memory -/
def dR : Kd Ent := Kd.pair (Kd.int .i64) (Kd.slice 5 (Kd.int .u8))
def RefAt (w : World) (base : Nat) (ok : Nat → Prop) (r : Nat) (L : List Ent) : Prop :=
  ∃ v : Value, w.heap[r]? = some (.cells #[v] 32 (0, 0)) ∧ (ok r ∧ base ≤ r) ∧ dR.R 63 w base ok v L
theorem RefAt.mono {w : World} {base : Nat} {ok ok' : Nat → Prop} {r : Nat} {L : List Ent} (h : RefAt w base ok r L) (ho : ∀ k, ok k → ok' k) : RefAt w base ok' r L := by
  obtain ⟨v, h1, ⟨h2, h3⟩, h4⟩ := h
  exact ⟨v, h1, ⟨ho _ h2, h3⟩, Kd.R_mono h4 ho⟩
theorem RefAt.step {w w1 : World} {base : Nat} {ok : Nat → Prop} {r : Nat} {L : List Ent} (h : RefAt w base ok r L) (hm : ∀ k, ok k → k < w.heap.size → w1.heap[k]? = w.heap[k]?) : RefAt w1 base ok r L := by
  obtain ⟨v, h1, ⟨h2, h3⟩, h4⟩ := h
  exact ⟨v, (hm r h2 (Array.getElem?_eq_some_iff.1 h1).1).trans h1, ⟨h2, h3⟩, Kd.R_step h4 hm⟩
theorem RefAt.bound {w : World} {base : Nat} {ok : Nat → Prop} {r : Nat} {L : List Ent} (h : RefAt w base ok r L) : RefAt w base (fun k => ok k ∧ base ≤ k ∧ k < w.heap.size) r L := by
  obtain ⟨v, h1, ⟨h2, h3⟩, h4⟩ := h
  exact ⟨v, h1, ⟨⟨h2, h3, (Array.getElem?_eq_some_iff.1 h1).1⟩, h3⟩, Kd.R_mono (Kd.R_bound h4) (fun k hk => ⟨hk.1, hk.2.1, hk.2.2.1⟩)⟩
theorem at_R {w : World} {A : Option Addr} {n : Nat} {L : List Ent} (h : dR.C w A n L) (i : Nat) (x : Ent) (hx : L[i]? = some x) (hn : n = L.length) : ∃ ad A1 c1, A = some ad ∧ w.cell? (ad.add (i * 2)) = some (.int .i64 x.1) ∧ w.cell? ⟨(ad.add (i * 2)).block, (ad.add (i * 2)).off + 1, none⟩ = some (.slice A1 x.2.length c1) ∧ x.2.length ≤ c1 ∧ (Kd.int .u8).C w A1 x.2.length x.2 := by
  have hi := (List.getElem?_eq_some_iff.1 hx).1
  obtain ⟨ad, c, e, _, hK, hc⟩ := Kd.C_get h ((0 : Int), ([] : List Int)) i (by omega) (by omega)
  have hg : L.getD (i : Int).toNat ((0 : Int), ([] : List Int)) = x := by rw [Int.toNat_natCast, List.getD_eq_getElem?_getD, hx]; rfl
  rw [hg] at hK
  obtain ⟨_, _, rfl, rfl, A1, c1, rfl, hl, hC⟩ := hK
  exact ⟨ad, A1, c1, e, hc 0 _ rfl, by rw [← add_field _ _ 1 (by omega)]; exact hc 1 _ rfl, hl, hC⟩
theorem drawn_C {α : Type} {d : Kd α} {w : World} {A : Option Addr} {n : Nat} {xs : List α} (h : d.C w A n xs) (k : Nat) : d.C (w.drewN k) A n xs := Kd.C_drewN h k
set_option maxRecDepth 100000 in
set_option maxHeartbeats 2000000 in
theorem is_calls (w : World) (base : Nat) (ok : Nat → Prop) (r : Nat) (L : List Ent) (i : Nat) (x : Ent) (p : Int) (A : Option Addr) (c : Nat) (l : List Int) (h : RefAt w base ok r L) (hx : L[i]? = some x) (hr : Kd.C (Kd.int .u8) w A l.length l) (hc : l.length ≤ c) (hx2 : x.2.length ≤ 140737488355328) :
    Calls Try.prog 22 #[.pointer (some ⟨r, 0, none⟩), .int .i64 i, .int .i64 p, .slice A l.length c] w fun e w' => e = .returned (.bool (decide (x = (p, l)))) ∧ Drawn0 w w' := by
  obtain ⟨v, h1, _, h4⟩ := h
  obtain ⟨Av, cv, rfl, hcv, hCv⟩ := Kd.R_reads h4
  have c0 : w.cell? ⟨r, 0, none⟩ = some (.slice Av L.length cv) := by unfold World.cell?; rw [h1]; simp
  obtain ⟨ad, A1, c1, rfl, k0, k1, hl1, hC1⟩ := at_R hCv i x hx rfl
  have hi : (i : Int) < L.length := by have := (List.getElem?_eq_some_iff.1 hx).1; omega
  have HS := Lib.hid (same_calls w A1 c1 x.2 A c l hC1 hl1 hr hc hx2)
  clear h1 h4 hCv hC1 hr hx
  obtain ⟨y, m⟩ := x
  by_cases hy : y = p
  · subst hy
    have q1 : (y == y) = true := by simp
    have e1 : decide ((y, m) = (y, l)) = decide (m = l) := by rw [decide_eq_decide]; simp
    rw [e1]
    clear e1
    go_enter Try.func22, Try.ntmps22
    go_wp2_with (go_at_call 19; refine HS.out.mono ?_; rintro e w1 ⟨rfl, hd⟩)
    go_ret
    exact ⟨rfl, hd⟩
  · have q1 : (y == p) = false := by simpa using hy
    have e1 : decide ((y, m) = (p, l)) = false := decide_eq_false (fun e => hy (Prod.mk.inj e).1)
    rw [e1]
    clear e1 hy
    go_enter Try.func22, Try.ntmps22
    go_wp2
    go_ret
    exact ⟨rfl, 0, rfl⟩
end Go.Proofs.Ytmidmdbhbhjcdaa.Nt
