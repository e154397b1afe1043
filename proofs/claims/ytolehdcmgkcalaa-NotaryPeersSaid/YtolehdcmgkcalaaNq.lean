/-
  NotaryRows: the walk of the law: whatever the peer and the number: it returns true, and nothing that lay has turned. No condition.
-/
import Derived.Test.YtolehdcmgkcalaaNp
namespace Go.Proofs.Ytolehdcmgkcalaa.Nt
open Go.RowKit Go.Maps Go.Proofs.YtolehdcmgkcalaaW.PrintWords Go.Proofs.YtolehdcmgkcalaaW.PrintLast Go.Proofs.YtolehdcmgkcalaaW.PrintMore
set_option linter.unusedVariables false
set_option linter.unusedSimpArgs false

/-! ### entries that a function of their number tells -/
def many (f : Nat → Ent) (k : Nat) : List Ent := (List.range k).map f
theorem many_length (f : Nat → Ent) (k : Nat) : (many f k).length = k := by simp [many]
theorem many_get (f : Nat → Ent) (k j : Nat) : (many f k)[j]? = if j < k then some (f j) else none := by
  unfold many
  rw [List.getElem?_map]
  by_cases h : j < k
  · rw [if_pos h, List.getElem?_range h]; rfl
  · rw [if_neg h, List.getElem?_eq_none (by simp; omega)]; rfl
theorem many_succ (f : Nat → Ent) (k : Nat) : many f (k + 1) = many f k ++ [f k] := by simp [many, List.range_succ]
theorem many_next {f : Nat → Ent} {k : Nat} {p : Int} {t : List Int} (hf : f k = (p, t)) (hn : ∀ j, j < k → f j ≠ f k) (h1 : 1 ≤ p) (h2 : p ≤ 2147483647) : mintF (many f k) p t = ((k : Int) + 1, 0, many f (k + 1)) := by
  have := mintF_new (L := many f k) h1 h2 (fun j hj => by
    rw [many_length] at hj
    rw [many_get, if_pos hj, ← hf]
    exact fun e => hn j hj (Option.some.inj e))
  rw [this, many_length, many_succ, hf]
theorem many_again {f : Nat → Ent} {k i : Nat} {p : Int} {t : List Int} (hf : f i = (p, t)) (hi : i < k) (hn : ∀ j, j < i → f j ≠ f i) (h1 : 1 ≤ p) (h2 : p ≤ 2147483647) : mintF (many f k) p t = ((i : Int) + 1, 0, many f k) :=
  mintF_old h1 h2 (by rw [many_get, if_pos hi, hf]) (fun j hj => by
    rw [many_get, if_pos (by omega), ← hf]
    exact fun e => hn j hj (Option.some.inj e))
theorem many_check {f : Nat → Ent} {k i : Nat} {p : Int} {t : List Int} (hi : i < k) : checkF (many f k) p t ((i : Int) + 1) = if f i = (p, t) then 0 else 12 := by
  unfold checkF
  rw [many_length, if_neg (by omega), show ((i : Int) + 1 - 1).toNat = i by omega, many_get, if_pos hi]
  by_cases h : f i = (p, t)
  · rw [if_pos h, if_pos (by rw [h])]
  · rw [if_neg h, if_neg (fun e => h (Option.some.inj e))]
theorem lit2_C (w : World) (x y : Int) : (Kd.int .u8).C (w.alloc (.cells #[.int .u8 x, .int .u8 y] 5)) (some ⟨w.heap.size, 0, none⟩) 2 [x, y] := Kd.C_of_reads (d := (0 : Int)) (h1 := fun _ => rfl) ⟨rfl, by decide, fun _ => ⟨_, rfl, fun j hj => by
      rw [Addr.add_lit]
      match j, hj with
      | 0, _ => exact cell_cells2 (Boxed2 w 5 #[.int .u8 x, .int .u8 y]) 0 (by simp)
      | 1, _ => exact cell_cells2 (Boxed2 w 5 #[.int .u8 x, .int .u8 y]) 1 (by simp)⟩⟩
theorem lit1_C (w : World) (x : Int) : (Kd.int .u8).C (w.alloc (.cells #[.int .u8 x] 5)) (some ⟨w.heap.size, 0, none⟩) 1 [x] := Kd.C_of_reads (d := (0 : Int)) (h1 := fun _ => rfl) ⟨rfl, by decide, fun _ => ⟨_, rfl, fun j hj => by
      rw [Addr.add_lit]
      match j, hj with
      | 0, _ => exact cell_cells2 (Boxed2 w 5 #[.int .u8 x]) 0 (by simp)⟩⟩
def ptxt (p : Int) (j : Nat) : Ent := (p, [(j : Int), 7])
theorem ptxt_ne (p : Int) {i j : Nat} (h : j < i) : ptxt p j ≠ ptxt p i := fun e => by
  have := (Prod.mk.inj e).2
  simp only [List.cons.injEq, and_true] at this
  omega
theorem grow_lit (w : World) (o : Obj) : Below w.heap.size w (w.alloc o) := (Below.refl _ _).alloc (Nat.le_refl _) _
set_option maxRecDepth 100000 in
set_option maxHeartbeats 4000000 in
theorem rows_in (w : World) (p n : Int) (hp1 : 1 ≤ p) (hp2 : p ≤ 2147483647) (hn1 : 0 ≤ n) (hn2 : n ≤ 255) :
    Calls Try.prog 5 #[.int .i64 p, .int .u8 n] w fun e w' => e = .returned (.bool true) ∧ Below w.heap.size w w' := by
  have HA := Lib.hid (awake_calls w)
  have g1 : decide (p < 1) = false := decide_eq_false (by omega)
  have g2 : decide (2147483647 < p) = false := decide_eq_false (by omega)
  obtain ⟨k, hk⟩ : ∃ k : Nat, n % 100 = (k : Int) := ⟨(n % 100).toNat, by omega⟩
  have hk100 : k < 100 := by omega
  go_enter Try.func5, Try.ntmps5
  go_upto_region 7 with (first
    | (go_at_call 7; refine HA.out.mono ?_; rintro e w1 ⟨rfl, hb1⟩)
    | (go_at_call 9; refine (one_new _).mono ?_; rintro e w2 ⟨g, rfl, h2, hb2⟩))
  rw [hk]
  clear hk g1 g2
  have hs1 := hb1.size
  have hs2 := hb2.size
  have H2 := Lib.hid (h2.sub (av' := fun _ => False) (fun k hk => hk.elim))
  have HB1 := Lib.hid hb1
  have HB2 := Lib.hid hb2
  clear h2 hb1 hb2
  go_wp2
  go_loopw [7] (fun v7 wr => ∃ i : Nat, v7 = .int .i64 i ∧ i ≤ k ∧ Hid (OneAt wr w1.heap.size g (many (ptxt p) i) (fun _ => False)) ∧ Hid (Below w1.heap.size w1 wr)) (fun v7 _ => k - (intOf v7).toNat)
  case atStart => exact ⟨0, rfl, Nat.zero_le _, H2, HB2⟩
  case round =>
    obtain ⟨i, rfl, hi, HT, HBr⟩ := hrel
    have hsr := HBr.out.size
    by_cases hlt : i < k
    · have b0 : decide ((i : Int) < (k : Int)) = true := decide_eq_true (by omega)
      have b0' : decide (i < k) = true := decide_eq_true hlt
      have e8 : IntKind.u8.wrap (i : Int) = i := by rw [IntKind.wrap_u8]; omega
      have e64 : IntKind.u64.wrap ((i : Int) + 1) = (i : Int) + 1 := IntWalk.u64_in _ (by omega)
      have HF := Lib.hid (show fine (p, [(i : Int), 7]) from ⟨⟨by show _ ≤ p; omega, by show p ≤ _; omega⟩, by simp; omega, by simp⟩)
      have hm := many_next (f := ptxt p) (k := i) rfl (fun j hj => ptxt_ne p hj) hp1 hp2
      have K1 := one_mint_n (wr.alloc (.cells #[.int .u8 i, .int .u8 7] 5)) w1.heap.size g (many (ptxt p) i) _ p (some ⟨wr.heap.size, 0, none⟩) 2 2 [(i : Int), 7] rfl (HT.out.step' (grow_lit _ _)) (by simp; omega) (lit2_C _ _ _) (by decide) HF.out (by rw [many_length]; omega)
      rw [hm] at K1
      have K1 := Lib.hid K1
      have HL := Lib.hid (many_length (ptxt p) (i + 1))
      clear hm
      go_wp2_with (first
        | (go_at_call 12; refine K1.out.mono ?_; rintro e w3 ⟨rfl, h3, hb3, _⟩; have HC := one_count w3 w1.heap.size g _ _ h3; rw [HL.out] at HC; have HC := Lib.hid HC; have H3 := Lib.hid h3; have HB3 := Lib.hid hb3; clear h3 hb3)
        | (go_at_call 14; refine HC.out.mono ?_; rintro e w4 ⟨rfl, rfl⟩))
      go_roundw
      case rel => exact ⟨i + 1, by go_num, by omega, H3, Lib.hid (HBr.out.trans (((Below.refl w1.heap.size wr).alloc (by omega) _).trans HB3.out))⟩
      case measure => simp [intOf]; omega
    · have b0 : decide ((i : Int) < (k : Int)) = false := decide_eq_false (by omega)
      have b0' : decide (i < k) = false := decide_eq_false hlt
      obtain rfl : i = k := by omega
      obtain ⟨wo, rfl⟩ : ∃ wo : World, wo = wr := ⟨_, rfl⟩
      go_wp2
      go_loopw [10] (fun v10 wr => ∃ j : Nat, v10 = .int .i64 j ∧ j ≤ i ∧ Hid (OneAt wr w1.heap.size g (many (ptxt p) i) (fun _ => False)) ∧ Hid (Below w1.heap.size w1 wr)) (fun v10 _ => i - (intOf v10).toNat)
      case atStart => exact ⟨0, rfl, Nat.zero_le _, HT, HBr⟩
      case round =>
        obtain ⟨j, rfl, hj, HU, HBu⟩ := hrel
        have hsu := HBu.out.size
        by_cases hlj : j < i
        · have b1 : decide ((j : Int) < (i : Int)) = true := decide_eq_true (by omega)
          have b1' : decide (j < i) = true := decide_eq_true hlj
          have e8 : IntKind.u8.wrap (j : Int) = j := by rw [IntKind.wrap_u8]; omega
          have e64 : IntKind.u64.wrap ((j : Int) + 1) = (j : Int) + 1 := IntWalk.u64_in _ (by omega)
          have HF := Lib.hid (show fine (p, [(j : Int), 7]) from ⟨⟨by show _ ≤ p; omega, by show p ≤ _; omega⟩, by simp; omega, by simp⟩)
          have HF1 := Lib.hid (show fine (p, [(j : Int)]) from ⟨⟨by show _ ≤ p; omega, by show p ≤ _; omega⟩, by simp; omega, by simp⟩)
          have hm := many_again (f := ptxt p) (k := i) (i := j) rfl hlj (fun j' hj' => ptxt_ne p hj') hp1 hp2
          have K1 := one_mint_n (wr.alloc (.cells #[.int .u8 j, .int .u8 7] 5)) w1.heap.size g (many (ptxt p) i) _ p (some ⟨wr.heap.size, 0, none⟩) 2 2 [(j : Int), 7] rfl (HU.out.step' (grow_lit _ _)) (by simp; omega) (lit2_C _ _ _) (by decide) HF.out (by rw [many_length]; omega)
          rw [hm] at K1
          have K1 := Lib.hid K1
          have HV1 := Lib.hid (show checkF (many (ptxt p) i) p [(j : Int), 7] ((j : Int) + 1) = 0 by rw [many_check hlj]; exact if_pos rfl)
          have HV2 := Lib.hid (show checkF (many (ptxt p) i) p [(j : Int)] ((j : Int) + 1) = 12 by rw [many_check hlj]; exact if_neg (fun e => by have := (Prod.mk.inj e).2; simp at this))
          clear hm
          go_wp2_with (first
            | (go_at_call 12; refine K1.out.mono ?_; rintro e w3 ⟨rfl, h3, hb3, _⟩; have H3 := Lib.hid h3; have HB3 := Lib.hid hb3; have K2 := Lib.hid (one_check_n (w3.alloc (.cells #[.int .u8 j, .int .u8 7] 5)) w1.heap.size g (many (ptxt p) i) _ p (some ⟨w3.heap.size, 0, none⟩) 2 2 [(j : Int), 7] ((j : Int) + 1) rfl (H3.out.step' (grow_lit _ _)) (lit2_C _ _ _) (by decide) HF.out (by rw [many_length]; omega) (by omega)); clear h3 hb3)
            | (go_at_call 10; with_reducible refine K2.out.mono ?_; rintro e w4 ⟨rfl, m4, hm4⟩; rw [HV1.out]; have HB4 := Lib.hid (show Below w3.heap.size w3 w4 from by rw [hm4]; exact (grow_lit _ _).trans ⟨rfl, rfl, rfl, Nat.le_refl _, fun _ _ => rfl⟩); have K3 := Lib.hid (one_check_n (w4.alloc (.cells #[.int .u8 j] 5)) w1.heap.size g (many (ptxt p) i) _ p (some ⟨w4.heap.size, 0, none⟩) 1 1 [(j : Int)] ((j : Int) + 1) rfl ((H3.out.step' HB4.out).step' (grow_lit _ _)) (lit1_C _ _) (by decide) HF1.out (by rw [many_length]; omega) (by omega)); clear hm4)
            | (go_at_call 10; with_reducible refine K3.out.mono ?_; rintro e w5 ⟨rfl, m5, hm5⟩; rw [HV2.out]; have HB5 := Lib.hid (show Below w4.heap.size w4 w5 from by rw [hm5]; exact (grow_lit _ _).trans ⟨rfl, rfl, rfl, Nat.le_refl _, fun _ _ => rfl⟩); clear hm5))
          go_roundw
          case rel =>
            have hs3 := HB3.out.size
            have hs4 := HB4.out.size
            simp only [World.size_alloc] at hs3
            exact ⟨j + 1, by go_num, by omega, Lib.hid ((H3.out.step' HB4.out).step' HB5.out), Lib.hid ((HBu.out.trans (((Below.refl w1.heap.size wr).alloc (by omega) _).trans HB3.out)).trans ((HB4.out.mono (by omega)).trans (HB5.out.mono (by omega))))⟩
          case measure => simp [intOf]; omega
        · have b1 : decide ((j : Int) < (i : Int)) = false := decide_eq_false (by omega)
          have b1' : decide (j < i) = false := decide_eq_false hlj
          have HC := one_count wr w1.heap.size g _ _ HU.out
          rw [many_length] at HC
          have HC := Lib.hid HC
          go_wp2_with (go_at_call 14; refine HC.out.mono ?_; rintro e w4 ⟨rfl, rfl⟩)
          go_ret
          exact ⟨rfl, HB1.out.trans (HBu.out.mono hs1)⟩
theorem rows_row (p n : Int) (w : World) (hp : (Lit.int .i64 p).wf = true) (hn : (Lit.int .u8 n).wf = true) :
    Calls Try.prog 5 #[.int .i64 p, .int .u8 n] w fun e w' => e = .returned (.bool true) ∧ Below w.heap.size w w' := by
  have hb := wf_bd hn (lo := 0) (hi := 255) (by decide) (by decide)
  by_cases h1 : p < 1
  · have HA := Lib.hid (awake_calls w)
    have g1 : decide (p < 1) = true := decide_eq_true h1
    go_enter Try.func5, Try.ntmps5
    go_wp2_with (go_at_call 7; refine HA.out.mono ?_; rintro e w1 ⟨rfl, hb1⟩)
    go_ret
    exact ⟨rfl, hb1⟩
  · by_cases h2 : 2147483647 < p
    · have HA := Lib.hid (awake_calls w)
      have g1 : decide (p < 1) = false := decide_eq_false h1
      have g2 : decide (2147483647 < p) = true := decide_eq_true h2
      go_enter Try.func5, Try.ntmps5
      go_wp2_with (go_at_call 7; refine HA.out.mono ?_; rintro e w1 ⟨rfl, hb1⟩)
      go_ret
      exact ⟨rfl, hb1⟩
    · exact rows_in w p n (by omega) (by omega) hb.1 hb.2
end Go.Proofs.Ytolehdcmgkcalaa.Nt
