/-
  A voucher's text (vouch.text, and the reference's Text), the numbers in few bytes and frames as contracts; bytes.HasPrefix, bytes.CutPrefix. Conditions: numbers are whole, from 0 on, of 63 bits; bytes are bytes.
-/
import Derived.Test.YtmidmdbhbhjcdaaVx
namespace Go.Proofs.Ytmidmdbhbhjcdaa.By
open Go.RowKit Go.Proofs.Ytmidmdbhbhjcdaa.Sp Go.Proofs.Ytmidmdbhbhjcdaa.H Go.Proofs.Ytmidmdbhbhjcdaa.Uv Go.Proofs.Ytmidmdbhbhjcdaa.Fr Go.Proofs.YtmidmdbhbhjcdaaW.PrintWords Go.Proofs.YtmidmdbhbhjcdaaW.PrintLast Go.Proofs.YtmidmdbhbhjcdaaW.PrintMore
set_option linter.unusedVariables false
set_option linter.unusedSimpArgs false
theorem uput_calls (w : World) (v : Int) (h0 : 0 ≤ v) (h1 : v ≤ 18446744073709551615) : Calls Try.prog 36 #[.int .u64 v] w fun e w' => ∃ v0, e = .returned v0 ∧ (Kd.int .u8).R 5 w' w.heap.size (fun _ => True) v0 (putI v) ∧ Below w.heap.size w w' := by
  obtain ⟨k, hk⟩ := (put_yes v h0 h1).rounds
  exact uvar_Put.calls k v _ w hk
theorem rput_calls (w : World) (v : Int) (h0 : 0 ≤ v) : Calls Try.prog 21 #[.int .u64 v] w fun e w' => ∃ v0, e = .returned v0 ∧ (Kd.int .u8).R 5 w' w.heap.size (fun _ => True) v0 (putI v) ∧ Below w.heap.size w w' := by
  obtain ⟨k, hk⟩ := (rput_yes v h0).rounds
  exact embrasureref01_Put.calls k v _ w hk
theorem uget_calls (w : World) (A : Option Addr) (c : Nat) (l : List Int) (hr : (Kd.int .u8).C w A l.length l) (hc : l.length ≤ c) (hb : Bytes l) : Calls Try.prog 24 #[.slice A l.length c] w fun e w' => e = .returned (.tuple #[.int .u64 (getI l).1, .int .i64 (getI l).2.1, .int .i64 (getI l).2.2]) ∧ Below w.heap.size w w' := by
  obtain ⟨k, hk⟩ := (get_yes l hb).rounds
  exact uvar_Get.calls k A c l _ _ _ w hr hc hk
theorem rget_calls (w : World) (A : Option Addr) (c : Nat) (l : List Int) (hr : (Kd.int .u8).C w A l.length l) (hc : l.length ≤ c) (hb : Bytes l) : Calls Try.prog 31 #[.slice A l.length c] w fun e w' => e = .returned (.tuple #[.int .u64 (getI l).1, .int .i64 (getI l).2.1, .int .i64 (getI l).2.2]) ∧ Drawn0 w w' := by
  obtain ⟨k, hk⟩ := (rget_yes l hb).rounds
  exact embrasureref01_Get.calls k A c l _ _ _ w hr hc hk
def frameI (row : List Int) : List Int := putI row.length ++ row
theorem fput_calls (w : World) (A : Option Addr) (c : Nat) (l : List Int) (hr : (Kd.int .u8).C w A l.length l) (hc : l.length ≤ c) (hl : l.length ≤ 1200) : Calls Try.prog 35 #[.slice A l.length c] w fun e w' => ∃ v0, e = .returned (.tuple #[v0, .int .i64 0]) ∧ (Kd.int .u8).R 5 w' w.heap.size (fun _ => True) v0 (frameI l) ∧ Below w.heap.size w w' := by
  obtain ⟨k, hk⟩ := (fput_yes l hl).rounds
  exact frame_Put.calls k A c l _ _ w hr hc hk
theorem rfput_calls (w : World) (A : Option Addr) (c : Nat) (l : List Int) (hr : (Kd.int .u8).C w A l.length l) (hc : l.length ≤ c) (hl : l.length ≤ 1200) : Calls Try.prog 37 #[.slice A l.length c] w fun e w' => ∃ v0, e = .returned (.tuple #[v0, .int .i64 0]) ∧ (Kd.int .u8).R 5 w' w.heap.size (fun _ => True) v0 (frameI l) ∧ Below w.heap.size w w' := by
  obtain ⟨k, hk⟩ := (rfput_yes l hl).rounds
  exact embrasureref02_Put.calls k A c l _ _ w hr hc hk
theorem fget_calls (w : World) (A : Option Addr) (c : Nat) (l : List Int) (hr : (Kd.int .u8).C w A l.length l) (hc : l.length ≤ c) (hb : Bytes l) (hl : l.length ≤ 1000000000) : Calls Try.prog 23 #[.slice A l.length c] w fun e w' => ∃ v0, e = .returned (.tuple #[v0, .int .i64 (getF l).2.1, .int .i64 (getF l).2.2]) ∧ (Kd.int .u8).R 5 w' w.heap.size (fun _ => True) v0 (getF l).1 ∧ Below w.heap.size w w' := by
  obtain ⟨k, hk⟩ := (fget_yes l hb hl).rounds
  exact frame_Get.calls k A c l _ _ _ w hr hc hk
theorem rfget_calls (w : World) (A : Option Addr) (c : Nat) (l : List Int) (hr : (Kd.int .u8).C w A l.length l) (hc : l.length ≤ c) (hb : Bytes l) (hl : l.length ≤ 1000000000) : Calls Try.prog 30 #[.slice A l.length c] w fun e w' => ∃ v0, e = .returned (.tuple #[v0, .int .i64 (getF l).2.1, .int .i64 (getF l).2.2]) ∧ (Kd.int .u8).R 5 w' w.heap.size (fun _ => True) v0 (getF l).1 ∧ Below w.heap.size w w' := by
  obtain ⟨k, hk⟩ := (rfget_yes l hb hl).rounds
  exact embrasureref02_Get.calls k A c l _ _ _ w hr hc hk
theorem same_n (w : World) (A0 : Option Addr) (n0 c0 : Nat) (l0 : List Int) (A1 : Option Addr) (n1 c1 : Nat) (l1 : List Int) (h0 : n0 = l0.length) (h1 : n1 = l1.length) (hr0 : Kd.C (Kd.int .u8) w A0 n0 l0) (hc0 : n0 ≤ c0) (hr1 : Kd.C (Kd.int .u8) w A1 n1 l1) (hc1 : n1 ≤ c1) (hl : n0 ≤ 140737488355328) :
    Calls Try.prog 19 #[.slice A0 n0 c0, .slice A1 n1 c1] w fun e w' => e = .returned (.bool (decide (l0 = l1))) ∧ Drawn0 w w' := by
  subst h0 h1
  obtain ⟨k, hk⟩ := (same_yes l0 l1 hl).rounds
  exact embrasureref01_Same.calls k A0 c0 l0 A1 c1 l1 _ w hr0 hc0 hr1 hc1 hk
/-! ### a voucher's text -/
def markL : List Int := [118, 99, 104]
def textL (nums : List Int) : List Int := markL ++ nums.flatMap putI
theorem putI_pos {v : Int} (h : v ≤ 9223372036854775807) : 0 < (putI v).length := by
  unfold putI
  rw [if_pos h]
  exact List.length_pos_iff.2 (enc_ne _ _)
theorem textL_len (nums : List Int) : (textL nums).length ≤ 3 + 9 * nums.length := by
  unfold textL
  rw [List.length_append]
  have h : (nums.flatMap putI).length ≤ 9 * nums.length := by
    induction nums with
    | nil => simp
    | cons x xs ih =>
      rw [List.flatMap_cons, List.length_append, List.length_cons]
      have := putI_len_le x
      omega
  have : markL.length = 3 := rfl
  omega
theorem textL_snoc (nums : List Int) (i : Nat) (h : i < nums.length) : textL (nums.take (i + 1)) = textL (nums.take i) ++ putI nums[i] := by
  unfold textL
  rw [List.take_succ_eq_append_getElem h, List.flatMap_append, ← List.append_assoc]
  simp
theorem textL_bytes {nums : List Int} (h : ∀ x ∈ nums, 0 ≤ x) : Bytes (textL nums) := by
  unfold textL
  refine Bytes.app (by unfold Bytes markL; decide) (fun y hy => ?_)
  obtain ⟨x, hx, hyx⟩ := List.mem_flatMap.1 hy
  exact putI_bytes x (h x hx) y hyx
theorem mark_C (w : World) (c : Nat) : (Kd.int .u8).C (w.alloc (.cells #[.int .u8 118, .int .u8 99, .int .u8 104] 5 (3, c))) (some ⟨w.heap.size, 0, none⟩) 3 markL := Kd.C_of_reads (d := (0 : Int)) (h1 := fun _ => rfl) ⟨rfl, by decide, fun _ => ⟨_, rfl, fun j hj => by
      rw [Addr.add_lit, World.cell?_alloc_mark]
      match j, hj with
      | 0, _ => rfl
      | 1, _ => rfl
      | 2, _ => rfl⟩⟩
theorem below_mark (w : World) : Below w.heap.size w (w.alloc (.cells #[.int .u8 118, .int .u8 99, .int .u8 104] 5 (3, 4))) := (Below.refl _ w).alloc (Nat.le_refl _) _
set_option maxRecDepth 100000 in
set_option maxHeartbeats 2000000 in
theorem text_calls (w : World) (A : Option Addr) (c : Nat) (nums : List Int) (hr : Kd.C (Kd.int .i64) w A nums.length nums) (hc : nums.length ≤ c) (hn : ∀ x ∈ nums, 0 ≤ x ∧ x ≤ 9223372036854775807) (h0 : 0 < nums.length) (hl : nums.length ≤ 1000) :
    Calls Try.prog 29 #[.slice A nums.length c] w fun e w' => ∃ v, e = .returned v ∧ (Kd.int .u8).R 5 w' w.heap.size (fun _ => True) v (textL nums) ∧ Below w.heap.size w w' := by
  have HR := Lib.hid hr
  have HN := Lib.hid hn
  clear hr hn
  have qc : ∀ (w : World), _ := fun w => Lib.run_convert_bytes_const (P := Try.prog) w 22 5 #[.int .u8 118, .int .u8 99, .int .u8 104] 3 3 Try.underlying22 Try.underlying5
  obtain ⟨W, hW⟩ : ∃ W, w.alloc (.cells #[.int .u8 118, .int .u8 99, .int .u8 104] 5 (3, 4)) = W := ⟨_, rfl⟩
  have HC0 := Lib.hid (show (Kd.int .u8).C W (some ⟨w.heap.size, 0, none⟩) 3 markL from by rw [← hW]; exact mark_C w 4)
  have HBW := Lib.hid (show Below w.heap.size w W from by rw [← hW]; exact below_mark w)
  go_enter Try.func29, Try.ntmps29
  go_upto_region 2 with fail
  clear hW qc
  go_wp2
  go_loopg [3, 10] (nums.length : Nat) (fun kq v3 v10 wr => ∃ i : Nat, v10 = .int .i64 i ∧ i + kq = nums.length ∧ Hid (Apd wr w.heap.size v3 (textL (nums.take i))) ∧ Hid (Below w.heap.size w wr) ∧ Hid (0 < i → (Kd.int .u8).R 5 wr w.heap.size (fun _ => True) v3 (textL (nums.take i))))
  case atStart => exact ⟨0, rfl, by omega, Lib.hid (.inr ⟨_, rfl, by rw [List.take_zero]; exact HC0.out, by rw [List.take_zero]; decide⟩), HBW, Lib.hid (fun h => absurd h (Nat.lt_irrefl 0))⟩
  case round =>
    obtain ⟨i, rfl, hik, HA, HB, HP⟩ := hrel
    have hws := HB.out.size
    by_cases hlt : i < nums.length
    · have b0 : decide ((i : Int) < (nums.length : Int)) = true := decide_eq_true (by omega)
      have b1 : (i : Int) < (nums.length : Int) := by omega
      obtain ⟨ad, rfl, hcell⟩ := cell_of_C (Kd.C_below HR.out HB.out) i hlt rfl
      obtain ⟨x, hx⟩ : ∃ x, nums[i] = x := ⟨_, rfl⟩
      have hxb := HN.out x (by rw [← hx]; exact List.getElem_mem hlt)
      have HT := Lib.hid (by rw [textL_snoc nums i hlt, hx] : textL (nums.take (i + 1)) = textL (nums.take i) ++ putI x)
      have hpos := putI_pos hxb.2
      have hlen := textL_len (nums.take i)
      have hti : (nums.take i).length ≤ nums.length := List.length_take_le' _ _
      have hpl := putI_len_le x
      rw [hx] at hcell
      have ex : x % 18446744073709551616 = x := by omega
      obtain ⟨A3, c3, hv3, _, _⟩ := HA.out.val
      obtain ⟨m3, hm3⟩ : ∃ m, (textL (nums.take i)).length = m := ⟨_, rfl⟩
      rw [hm3] at hv3
      subst hv3
      have HM3 := Lib.hid hm3
      clear hx hm3
      go_wp2_with (first
        | (go_at_call 36; refine (uput_calls wr x hxb.1 (by omega)).mono ?_; rintro e w5 ⟨v5, rfl, hR5, hb5⟩; obtain ⟨A5, c5, hv5, hc5, hC5⟩ := Kd.R_reads hR5; obtain ⟨m5, hm5⟩ : ∃ m, (putI x).length = m := ⟨_, rfl⟩; rw [hm5] at hv5 hC5; subst hv5; have HA5 := Lib.hid (HA.out.below hb5); have HC5 := Lib.hid hC5; have HB5 := Lib.hid (HB.out.trans (hb5.mono hws)); have HM5 := Lib.hid hm5; clear hR5 hb5 hC5 hm5)
        | ((with_reducible refine gate_builtin (b := .append) (xs := #[.tmp 14, .tmp 17]) rfl ?_); at_builtin; refine append_apd (w0 := w) w.heap.size rfl (.tmp 14) (.tmp 17) rfl (.slice A3 m3 c3) (textL (nums.take i)) (putI x) A5 m5 c5 rfl rfl HA5.out HC5.out (by have := HM5.out; omega) HB5.out HB5.out.size (by have := HM5.out; omega) ?_; intro v6 w6 ho6 hb6; have HO6 := Lib.hid ho6; have HB6 := Lib.hid hb6; clear ho6 hb6))
      go_roundg (gk - 1)
      case measure => omega
      case rel => exact ⟨i + 1, by go_num, by omega, Lib.hid (.inl (by rw [HT.out]; exact HO6.out)), HB6, Lib.hid (fun _ => by rw [HT.out]; exact HO6.out)⟩
    · have b0 : decide ((i : Int) < (nums.length : Int)) = false := decide_eq_false (by omega)
      have hin : i = nums.length := by omega
      have HIN := Lib.hid hin
      clear hin
      go_wp2
      go_ret
      have h := HP.out (by omega)
      rw [HIN.out, List.take_length] at h
      exact ⟨_, rfl, h, HB.out⟩
set_option maxRecDepth 100000 in
set_option maxHeartbeats 2000000 in
theorem rtext_calls (w : World) (r p u : Int) (hr : 0 ≤ r ∧ r ≤ 9223372036854775807) (hp : 0 ≤ p ∧ p ≤ 9223372036854775807) (hu : 0 ≤ u ∧ u ≤ 9223372036854775807) :
    Calls Try.prog 11 #[.int .i64 r, .int .i64 p, .int .i64 u] w fun e w' => ∃ v, e = .returned v ∧ (Kd.int .u8).R 5 w' w.heap.size (fun _ => True) v (textL [r, p, u]) ∧ Below w.heap.size w w' := by
  have qc : ∀ (w : World), _ := fun w => Lib.run_convert_bytes_const (P := Try.prog) w 22 5 #[.int .u8 118, .int .u8 99, .int .u8 104] 3 3 Try.underlying22 Try.underlying5
  obtain ⟨W, hW⟩ : ∃ W, w.alloc (.cells #[.int .u8 118, .int .u8 99, .int .u8 104] 5 (3, 4)) = W := ⟨_, rfl⟩
  have HC0 := Lib.hid (show (Kd.int .u8).C W (some ⟨w.heap.size, 0, none⟩) 3 markL from by rw [← hW]; exact mark_C w 4)
  have HBW := Lib.hid (show Below w.heap.size w W from by rw [← hW]; exact below_mark w)
  have er : r % 18446744073709551616 = r := by omega
  have ep : p % 18446744073709551616 = p := by omega
  have eu : u % 18446744073709551616 = u := by omega
  have l1 := putI_pos hr.2
  have l2 := putI_pos hp.2
  have l3 := putI_pos hu.2
  have k1 := putI_len_le r
  have k2 := putI_len_le p
  have k3 := putI_len_le u
  have HT := Lib.hid (show textL [r, p, u] = ((markL ++ putI r) ++ putI p) ++ putI u from by unfold textL; simp)
  obtain ⟨n1, hn1⟩ : ∃ n, (putI r).length = n := ⟨_, rfl⟩
  obtain ⟨n2, hn2⟩ : ∃ n, (putI p).length = n := ⟨_, rfl⟩
  obtain ⟨n3, hn3⟩ : ∃ n, (putI u).length = n := ⟨_, rfl⟩
  have HN1 := Lib.hid hn1
  have HN2 := Lib.hid hn2
  have HN3 := Lib.hid hn3
  rw [hn1] at l1 k1
  rw [hn2] at l2 k2
  rw [hn3] at l3 k3
  have HL1 := Lib.hid (show (markL ++ putI r).length = 3 + n1 by rw [List.length_append, hn1]; rfl)
  have HL2 := Lib.hid (show ((markL ++ putI r) ++ putI p).length = 3 + n1 + n2 by rw [List.length_append, List.length_append, hn1, hn2]; rfl)
  clear hn1 hn2 hn3
  go_enter Try.func11, Try.ntmps11
  go_upto_region 2 with (first
    | (go_at_call 21; refine (rput_calls W r hr.1).mono ?_; rintro e w5 ⟨v5, rfl, hR5, hb5⟩; obtain ⟨A5, c5, hv5, hc5, hC5⟩ := Kd.R_reads hR5; rw [HN1.out] at hv5 hC5; subst hv5; have HC0' := Lib.hid (Kd.C_below HC0.out hb5); have HC5 := Lib.hid hC5; have HB5 := Lib.hid (HBW.out.trans (hb5.mono HBW.out.size)); clear hR5 hb5 hC5)
    | ((with_reducible refine gate_builtin (b := .append) (xs := #[.tmp 9, .tmp 12]) rfl ?_); at_builtin; refine append_apd (w0 := w) w.heap.size rfl (.tmp 9) (.tmp 12) rfl (.slice (some ⟨w.heap.size, 0, none⟩) 3 3) markL (putI r) A5 n1 c5 rfl rfl (.inr ⟨_, rfl, HC0'.out, by decide⟩) HC5.out l1 HB5.out HB5.out.size (by have : markL.length = 3 := rfl; omega) ?_; intro v6 w6 ho6 hb6; obtain ⟨A6, c6, hv6, hc6, _⟩ := Kd.R_reads ho6; rw [HL1.out] at hv6; subst hv6; have HO6 := Lib.hid ho6; have HB6 := Lib.hid hb6; clear ho6 hb6))
  clear hW qc
  go_upto_region 3 with (first
    | (go_at_call 21; refine (rput_calls w6 p hp.1).mono ?_; rintro e w7 ⟨v7, rfl, hR7, hb7⟩; obtain ⟨A7, c7, hv7, hc7, hC7⟩ := Kd.R_reads hR7; rw [HN2.out] at hv7 hC7; subst hv7; have HO7 := Lib.hid (Kd.R_below HO6.out hb7); have HC7 := Lib.hid hC7; have HB7 := Lib.hid (HB6.out.trans (hb7.mono HB6.out.size)); clear hR7 hb7 hC7)
    | ((with_reducible refine gate_builtin (b := .append) (xs := #[.tmp 14, .tmp 17]) rfl ?_); at_builtin; refine append_apd (w0 := w) w.heap.size rfl (.tmp 14) (.tmp 17) rfl (.slice A6 (3 + n1) c6) (markL ++ putI r) (putI p) A7 n2 c7 rfl rfl (.inl HO7.out) HC7.out l2 HB7.out HB7.out.size (by have := HL1.out; omega) ?_; intro v8 w8 ho8 hb8; obtain ⟨A8, c8, hv8, hc8, _⟩ := Kd.R_reads ho8; rw [HL2.out] at hv8; subst hv8; have HO8 := Lib.hid ho8; have HB8 := Lib.hid hb8; clear ho8 hb8))
  go_wp2_with (first
    | (go_at_call 21; refine (rput_calls w8 u hu.1).mono ?_; rintro e w9 ⟨v9, rfl, hR9, hb9⟩; obtain ⟨A9, c9, hv9, hc9, hC9⟩ := Kd.R_reads hR9; rw [HN3.out] at hv9 hC9; subst hv9; have HO9 := Lib.hid (Kd.R_below HO8.out hb9); have HC9 := Lib.hid hC9; have HB9 := Lib.hid (HB8.out.trans (hb9.mono HB8.out.size)); clear hR9 hb9 hC9)
    | ((with_reducible refine gate_builtin (b := .append) (xs := #[.tmp 19, .tmp 22]) rfl ?_); at_builtin; refine append_apd (w0 := w) w.heap.size rfl (.tmp 19) (.tmp 22) rfl (.slice A8 (3 + n1 + n2) c8) ((markL ++ putI r) ++ putI p) (putI u) A9 n3 c9 rfl rfl (.inl HO9.out) HC9.out l3 HB9.out HB9.out.size (by have := HL2.out; omega) ?_; intro v10 w10 ho10 hb10; have HO10 := Lib.hid ho10; have HB10 := Lib.hid hb10; clear ho10 hb10))
  go_ret
  exact ⟨_, rfl, by rw [HT.out]; exact HO10.out, HB10.out⟩
end Go.Proofs.Ytmidmdbhbhjcdaa.By
