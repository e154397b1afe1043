/-
  NotaryPeers: the walk of the law: whatever the text and the number: it returns true, and nothing that lay has turned. No condition.
-/
import Derived.Test.YtolehdcmgkcalaaNq
import Derived.Test.YtolehdcmgkcalaaNh
namespace Go.Proofs.Ytolehdcmgkcalaa.Nt
open Go.RowKit Go.Maps Go.Proofs.YtolehdcmgkcalaaW.PrintWords Go.Proofs.YtolehdcmgkcalaaW.PrintLast Go.Proofs.YtolehdcmgkcalaaW.PrintMore
set_option linter.unusedVariables false
set_option linter.unusedSimpArgs false

def pnum (t : List Int) (j : Nat) : Ent := ((j : Int) + 1, t)
theorem pnum_ne (t : List Int) {i j : Nat} (h : j < i) : pnum t j ≠ pnum t i := fun e => by
  have := (Prod.mk.inj e).1
  omega
theorem pnum_check (t : List Int) {k i j : Nat} (hj : j < k) : checkF (many (pnum t) k) ((i : Int) + 1) t ((j : Int) + 1) = if i = j then 0 else 12 := by
  rw [many_check hj]
  by_cases h : i = j
  · subst h; rw [if_pos rfl]; exact if_pos rfl
  · rw [if_neg h]; exact if_neg (fun e => h (by have := (Prod.mk.inj e).1; omega))
theorem pnum_last (t : List Int) (k : Nat) : checkF (many (pnum t) k) ((k : Int) + 1) t (k : Int) = 12 := by
  rcases checkF_or (many (pnum t) k) ((k : Int) + 1) t (k : Int) with h | h
  · obtain ⟨h1, h2, h3⟩ := checkF_zero.1 h
    rw [many_get] at h3
    split at h3
    · have := (Prod.mk.inj (Option.some.inj h3)).1
      omega
    · cases h3
  · exact h
set_option maxRecDepth 100000 in
set_option maxHeartbeats 4000000 in
theorem peers_in (w : World) (A : Option Addr) (c : Nat) (t : List Int) (n : Int) (hr : Kd.C (Kd.int .u8) w A t.length t) (hc : t.length ≤ c) (ht : ∀ b ∈ t, 0 ≤ b ∧ b ≤ 255) (hl : t.length ≤ 200) (hn1 : 0 ≤ n) (hn2 : n ≤ 255) :
    Calls Try.prog 6 #[.slice A t.length c, .int .u8 n] w fun e w' => e = .returned (.bool true) ∧ Below w.heap.size w w' := by
  have HA := Lib.hid (awake_calls w)
  have HR := Lib.hid hr
  have HT := Lib.hid ht
  clear hr ht
  have g1 : decide (200 < (t.length : Int)) = false := decide_eq_false (by omega)
  have HF := Lib.hid (show ∀ j : Nat, j < 60 → fine ((j : Int) + 1, t) from fun j hj => ⟨⟨by show _ ≤ (j : Int) + 1; omega, by show (j : Int) + 1 ≤ _; omega⟩, HT.out, by show t.length ≤ _; omega⟩)
  obtain ⟨k, hk⟩ : ∃ k : Nat, n % 40 = (k : Int) := ⟨(n % 40).toNat, by omega⟩
  have hk40 : k < 40 := by omega
  go_enter Try.func6, Try.ntmps6
  go_upto_region 7 with (first
    | (go_at_call 7; refine HA.out.mono ?_; rintro e w1 ⟨rfl, hb1⟩)
    | (go_at_call 9; refine (one_new _).mono ?_; rintro e w2 ⟨g, rfl, h2, hb2⟩))
  rw [hk]
  clear hk g1
  have hs1 := hb1.size
  have hs2 := hb2.size
  have H2 := Lib.hid (h2.sub (av' := fun _ => False) (fun k hk => hk.elim))
  have HB1 := Lib.hid hb1
  have HB2 := Lib.hid hb2
  clear h2 hb1 hb2
  have HRr := Lib.hid (show ∀ W, Below w1.heap.size w1 W → Kd.C (Kd.int .u8) W A t.length t from fun W hW => Kd.C_below HR.out (HB1.out.trans (hW.mono hs1)))
  go_wp2
  go_loopw [7] (fun v7 wr => ∃ i : Nat, v7 = .int .i64 i ∧ i ≤ k ∧ Hid (OneAt wr w1.heap.size g (many (pnum t) i) (fun _ => False)) ∧ Hid (Below w1.heap.size w1 wr)) (fun v7 _ => k - (intOf v7).toNat)
  case atStart => exact ⟨0, rfl, Nat.zero_le _, H2, HB2⟩
  case round =>
    obtain ⟨i, rfl, hi, HO, HBr⟩ := hrel
    have hsr := HBr.out.size
    by_cases hlt : i < k
    · have b0 : decide ((i : Int) < (k : Int)) = true := decide_eq_true (by omega)
      have b0' : decide (i < k) = true := decide_eq_true hlt
      have e64 : IntKind.u64.wrap ((i : Int) + 1) = (i : Int) + 1 := IntWalk.u64_in _ (by omega)
      have hm := many_next (f := pnum t) (k := i) rfl (fun j hj => pnum_ne t hj) (by omega) (by omega)
      have K1 := one_mint wr w1.heap.size g (many (pnum t) i) _ ((i : Int) + 1) A c t HO.out (by omega) (HRr.out _ HBr.out) hc (HF.out i (by omega)) (by rw [many_length]; omega)
      rw [hm] at K1
      have K1 := Lib.hid K1
      clear hm
      go_wp2_with (go_at_call 12; refine K1.out.mono ?_; rintro e w3 ⟨rfl, h3, hb3, _⟩; have H3 := Lib.hid h3; have HB3 := Lib.hid hb3; clear h3 hb3)
      go_roundw
      case rel => exact ⟨i + 1, by go_num, by omega, H3, Lib.hid (HBr.out.trans HB3.out)⟩
      case measure => simp [intOf]; omega
    · have b0 : decide ((i : Int) < (k : Int)) = false := decide_eq_false (by omega)
      have b0' : decide (i < k) = false := decide_eq_false hlt
      obtain rfl : i = k := by omega
      have HCk := Lib.hid (fun W (hW : Below wr.heap.size wr W) (a : Nat) (tg : Int) (ha : a < 60) (htg : 0 ≤ tg ∧ tg ≤ 18446744073709551615) => one_check W w1.heap.size g (many (pnum t) i) _ ((a : Int) + 1) A c t tg (HO.out.step' hW) (HRr.out _ (HBr.out.trans (hW.mono hsr))) hc (HF.out a ha) (by rw [many_length]; omega) htg)
      obtain ⟨wo, rfl⟩ : ∃ wo : World, wo = wr := ⟨_, rfl⟩
      go_wp2
      go_loopw [10] (fun v10 wr => ∃ a : Nat, v10 = .int .i64 a ∧ a ≤ i ∧ Hid (Drawn0 wo wr)) (fun v10 _ => i - (intOf v10).toNat)
      case atStart => exact ⟨0, rfl, Nat.zero_le _, Lib.hid (Drawn0.refl _)⟩
      case round =>
        obtain ⟨a, rfl, ha, HD⟩ := hrel
        by_cases hla : a < i
        · have b1 : decide ((a : Int) < (i : Int)) = true := decide_eq_true (by omega)
          have b1' : decide (a < i) = true := decide_eq_true hla
          obtain ⟨wp, rfl⟩ : ∃ wp : World, wp = wr := ⟨_, rfl⟩
          go_wp2
          go_loopw [11] (fun v11 wr => ∃ b : Nat, v11 = .int .i64 b ∧ b ≤ i ∧ Hid (Drawn0 wo wr)) (fun v11 _ => i - (intOf v11).toNat)
          case atStart => exact ⟨0, rfl, Nat.zero_le _, HD⟩
          case round =>
            obtain ⟨b, rfl, hb, HE⟩ := hrel
            by_cases hlb : b < i
            · have b2 : decide ((b : Int) < (i : Int)) = true := decide_eq_true (by omega)
              have b2' : decide (b < i) = true := decide_eq_true hlb
              have e64 : IntKind.u64.wrap ((b : Int) + 1) = (b : Int) + 1 := IntWalk.u64_in _ (by omega)
              have K := HCk.out wr HE.out.below a ((b : Int) + 1) (by omega) (by omega)
              rw [pnum_check t hlb] at K
              by_cases hab : a = b
              · subst hab
                rw [if_pos rfl] at K
                have K := Lib.hid K
                have q1 : ((a : Int) == (a : Int)) = true := by simp
                go_wp2_with (go_at_call 10; refine K.out.mono ?_; rintro e w4 ⟨rfl, m, rfl⟩)
                go_roundw
                case rel => exact ⟨a + 1, by go_num, by omega, Lib.hid (HE.out.step _)⟩
                case measure => simp [intOf]; omega
              · rw [if_neg hab] at K
                have K := Lib.hid K
                have q1 : ((a : Int) == (b : Int)) = false := by rw [beq_eq_false_iff_ne]; omega
                have q2 : (a == b) = false := by simpa using hab
                go_wp2_with (go_at_call 10; refine K.out.mono ?_; rintro e w4 ⟨rfl, m, rfl⟩)
                go_roundw
                case rel => exact ⟨b + 1, by go_num, by omega, Lib.hid (HE.out.step _)⟩
                case measure => simp [intOf]; omega
            · have b2 : decide ((b : Int) < (i : Int)) = false := decide_eq_false (by omega)
              have b2' : decide (b < i) = false := decide_eq_false hlb
              go_wp2
              go_roundw
              case rel => exact ⟨a + 1, by go_num, by omega, HE⟩
              case measure => simp [intOf]; omega
        · have b1 : decide ((a : Int) < (i : Int)) = false := decide_eq_false (by omega)
          have b1' : decide (a < i) = false := decide_eq_false hla
          have HC := one_count wr w1.heap.size g _ _ (HO.out.step' HD.out.below)
          rw [many_length] at HC
          have HC := Lib.hid HC
          have K := HCk.out wr HD.out.below i (i : Int) (by omega) (by omega)
          rw [pnum_last] at K
          have K := Lib.hid K
          have e64 : IntKind.u64.wrap (i : Int) = (i : Int) := IntWalk.u64_in _ (by omega)
          have q1 : ((i : Int) == (i : Int)) = true := by simp
          go_wp2_with (first
            | (go_at_call 14; refine HC.out.mono ?_; rintro e w4 ⟨rfl, rfl⟩)
            | (go_at_call 10; refine K.out.mono ?_; rintro e w4 ⟨rfl, m, rfl⟩))
          go_ret
          exact ⟨rfl, HB1.out.trans ((HBr.out.trans ((HD.out.step m).below.mono hsr)).mono hs1)⟩
theorem peers_row (A : Option Addr) (c : Nat) (t : List Int) (n : Int) (w : World) (hr : Kd.C (Kd.int .u8) w A t.length t) (hc : t.length ≤ c) (hy : t.length * 1 ≤ 140737488351232) (ht : ∀ b ∈ t, (Lit.int .u8 b).wf = true) (hn : (Lit.int .u8 n).wf = true) :
    Calls Try.prog 6 #[.slice A t.length c, .int .u8 n] w fun e w' => e = .returned (.bool true) ∧ Below w.heap.size w w' := by
  have hb := wf_bd hn (lo := 0) (hi := 255) (by decide) (by decide)
  by_cases h1 : 200 < t.length
  · have HA := Lib.hid (awake_calls w)
    have g1 : decide (200 < (t.length : Int)) = true := decide_eq_true (by omega)
    clear hr ht
    go_enter Try.func6, Try.ntmps6
    go_wp2_with (go_at_call 7; refine HA.out.mono ?_; rintro e w1 ⟨rfl, hb1⟩)
    go_ret
    exact ⟨rfl, hb1⟩
  · exact peers_in w A c t n hr hc (fun b hb => wf_bd (ht b hb) (by decide) (by decide)) (by omega) hb.1 hb.2
end Go.Proofs.Ytolehdcmgkcalaa.Nt
