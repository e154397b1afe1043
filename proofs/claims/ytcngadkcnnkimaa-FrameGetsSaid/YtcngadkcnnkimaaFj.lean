/-
  FrameJoins: the walk of the law: whatever the rows and the cut: it returns true, and nothing that lay has turned. Condition: the rows are bytes.
-/
import Derived.Test.YtcngadkcnnkimaaTc
import Derived.Test.YtcngadkcnnkimaaPureFs
namespace Go.Proofs.Ytcngadkcnnkimaa.Fr
open Go.RowKit Go.Shelf Go.Proofs.Ytcngadkcnnkimaa.H Go.Proofs.Ytcngadkcnnkimaa.Uv Go.Proofs.YtcngadkcnnkimaaW.PrintWords Go.Proofs.YtcngadkcnnkimaaW.PrintLast Go.Proofs.YtcngadkcnnkimaaW.PrintMore
set_option linter.unusedVariables false
set_option linter.unusedSimpArgs false
attribute [local go_sem] Oper.semAt_some

theorem row_cell {w : World} {A : Option Addr} {n : Nat} {ls : List (List Int)} (h : (Kd.slice 5 (Kd.int .u8)).C w A n ls) (i : Nat) (hi : i < ls.length) : ∃ ad A1 c1, A = some ad ∧ w.cell? (ad.add i) = some (.slice A1 ls[i].length c1) := by
  have hn := h.1
  obtain ⟨ad, hA, hc⟩ := h.2.2 (by omega)
  obtain ⟨c, _, ⟨A1, c1, rfl, _, _⟩, hcell⟩ := hc i ls[i] (List.getElem?_eq_getElem hi)
  have := hcell 0 _ rfl
  exact ⟨ad, A1, c1, hA, by simpa [Kd.slice] using this⟩
def longB (ls : List (List Int)) : Bool := ls.any fun r => decide (1200 < r.length)
theorem longB_snoc (ls : List (List Int)) (i : Nat) (hi : i < ls.length) : longB (ls.take (i + 1)) = (longB (ls.take i) || decide (1200 < ls[i].length)) := by
  unfold longB
  rw [List.take_succ_eq_append_getElem hi, List.any_append]
  simp
set_option maxRecDepth 100000 in
set_option maxHeartbeats 1000000 in
theorem joins_in (A0 : Option Addr) (c0 : Nat) (l0 : List (List Int)) (cut : Int) (w : World) (hr0 : (Kd.slice 5 (Kd.int .u8)).C w A0 l0.length l0) (hc0 : l0.length ≤ c0) (hb0 : ∀ r ∈ l0, Bytes r) (h60 : l0.length ≤ 60) (hcut0 : 0 ≤ cut) (hcut1 : cut ≤ 65535) :
    Calls Try.prog 6 #[.slice A0 l0.length c0, .int .u16 cut] w fun e w' => e = .returned (.bool true) ∧ Below w.heap.size w w' := by
  obtain ⟨ka, hka⟩ := awake_yes.rounds
  obtain ⟨k0, hk0⟩ := (join_yes l0 (by omega)).rounds
  have Ka := Lib.hid hka
  have K0 := Lib.hid hk0
  have HR0 := Lib.hid hr0
  have HB0 := Lib.hid hb0
  clear hka hk0 hr0 hb0
  have g0 : decide (60 < (l0.length : Int)) = false := decide_eq_false (by omega)
  go_enter Try.func6, Try.ntmps6
  go_upto_region 5 with (go_at_call 8; refine (embrasurelaw02_awake.calls ka true _ Ka.out).mono ?_; rintro e w1 ⟨rfl, hb1⟩)
  have HB1 := Lib.hid hb1
  have HR1 := Lib.hid (Kd.C_below HR0.out hb1)
  have hs1 := hb1.size
  clear hb1
  go_wp2
  go_loop [5, 6] (fun v5 v6 => ∃ (i : Nat) (lg : Bool), v5 = .bool lg ∧ v6 = .int .i64 i ∧ i ≤ l0.length ∧ Hid (longB (l0.take i) = lg)) (fun _ v6 => l0.length - (intOf v6).toNat)
  case atStart => exact ⟨0, false, rfl, rfl, Nat.zero_le _, Lib.hid rfl⟩
  case round =>
    obtain ⟨i, lg, rfl, rfl, hi, HL⟩ := hrel
    by_cases hlt : i < l0.length
    · have b0 : decide ((i : Int) < (l0.length : Int)) = true := decide_eq_true (by omega)
      have b1 : (i : Int) < (l0.length : Int) := by omega
      obtain ⟨ad, A1, c1, rfl, hcell⟩ := row_cell HR1.out i hlt
      obtain ⟨m, hm⟩ : ∃ m, l0[i].length = m := ⟨_, rfl⟩
      rw [hm] at hcell
      have hsn := longB_snoc l0 i hlt
      rw [hm, HL.out] at hsn
      have HS := Lib.hid hsn
      clear hsn hm
      by_cases h13 : 1300 < m
      · have q : decide (1300 < (m : Int)) = true := decide_eq_true (by omega)
        go_wp2
        go_ret
        exact ⟨rfl, HB1.out⟩
      · have q : decide (1300 < (m : Int)) = false := decide_eq_false (by omega)
        cases lg
        case true =>
          go_wp2
          go_round
          case rel => exact ⟨i + 1, true, rfl, by go_num, by omega, Lib.hid (by rw [HS.out]; rfl)⟩
          case measure => simp [intOf]; omega
        case false =>
          by_cases h12 : 1200 < m
          · have q2 : decide (1200 < (m : Int)) = true := decide_eq_true (by omega)
            go_wp2
            go_round
            case rel => exact ⟨i + 1, true, rfl, by go_num, by omega, Lib.hid (by rw [HS.out, decide_eq_true h12]; rfl)⟩
            case measure => simp [intOf]; omega
          · have q2 : decide (1200 < (m : Int)) = false := decide_eq_false (by omega)
            go_wp2
            go_round
            case rel => exact ⟨i + 1, false, rfl, by go_num, by omega, Lib.hid (by rw [HS.out, decide_eq_false h12]; rfl)⟩
            case measure => simp [intOf]; omega
    · have b0 : decide ((i : Int) < (l0.length : Int)) = false := decide_eq_false (by omega)
      obtain ⟨⟨z, e⟩, hz⟩ : ∃ q, joinA l0 = q := ⟨_, rfl⟩
      have hk0 := K0.out
      rw [hz] at hk0
      have K0' := Lib.hid hk0
      have hlg : longB l0 = lg := by have h := HL.out; rw [List.take_of_length_le (by omega)] at h; exact h
      have hzz : joinA l0 = if lg then ([], 4) else (joinF l0, 0) := by rw [← hlg]; rfl
      rw [hz] at hzz
      clear hk0
      cases lg
      case true =>
        injection hzz with hz1 he1
        subst hz1
        subst he1
        clear hz hlg
        go_wp2_with (go_at_call 12; refine (frame_Join.calls k0 A0 c0 l0 [] 4 _ HR1.out hc0 K0'.out).mono ?_; rintro e w2 ⟨vx, rfl, hRx, hb2⟩; obtain ⟨Ax, cx, hvx, _, _⟩ := Kd.R_reads hRx; subst hvx; have HB2 := Lib.hid hb2; clear hRx hb2)
        go_ret
        exact ⟨rfl, HB1.out.trans (HB2.out.mono hs1)⟩
      case false =>
        injection hzz with hz1 he1
        subst he1
        have hok : ∀ r ∈ l0, r.length ≤ 1200 := (joinA_ok (rows := l0) (by rw [hz])).1
        have hlen := joinF_len l0 1200 hok
        have hlen2 : l0.length * (9 + 1200) ≤ 60 * 1209 := Nat.mul_le_mul_right 1209 h60
        have hrb : ∀ r ∈ l0, r.length ≤ 1200 ∧ Bytes r := fun r hr => ⟨hok r hr, HB0.out r hr⟩
        have hrows : rowsF z = (l0, 0) := by
          have h := rowsF_join l0 [] hrb (fun x hx => by simp at hx)
          rw [List.append_nil, rowsF_nil, ← hz1] at h
          simpa using h
        have hzb : Bytes z := by rw [hz1]; exact joinF_bytes l0 HB0.out
        have hzl : z.length ≤ 100000 := by rw [hz1]; omega
        obtain ⟨kr, hkr⟩ := (rows_yes l0 l0 (by omega) (fun r hr => by have := hok r hr; omega)).rounds
        rw [decide_eq_true rfl] at hkr
        have KR := Lib.hid hkr
        have HZ1 := Lib.hid hz1
        have HOK := Lib.hid hok
        have HRB := Lib.hid hrb
        have HRW := Lib.hid hrows
        have HZB := Lib.hid hzb
        clear hkr hz1 hz hlg hok hrb hrows hzb hlen hlen2
        go_upto_region 18 with (first
          | (go_at_call 12; refine (frame_Join.calls k0 A0 c0 l0 z 0 _ HR1.out hc0 K0'.out).mono ?_; rintro e w2 ⟨vx, rfl, hRx, hb2⟩; obtain ⟨Az, cz, hvx, hcz, hCz⟩ := Kd.R_reads hRx; subst hvx; have HB2 := Lib.hid hb2; have HCz := Lib.hid hCz; have KS := split_calls Az cz z w2 hCz hcz HZB.out (by omega); rw [HRW.out] at KS; have KS := Lib.hid KS; clear hRx hb2 hCz)
          | (go_at_call 16; refine KS.out.mono ?_; rintro e w3 ⟨vl, rfl, hRl, hb3⟩; obtain ⟨Al, cl, hvl, hcl, hCl⟩ := Kd.R_reads hRl; subst hvl; have HB3 := Lib.hid hb3; have HCl := Lib.hid hCl; clear hRl hb3 hCl)
          | (go_at_call 18; refine (embrasureref02_Rows.calls kr Al cl l0 A0 c0 l0 true _ HCl.out hcl (Kd.C_below HR1.out (HB2.out.trans (HB3.out.mono HB2.out.size))) hc0 KR.out).mono ?_; rintro e w4 ⟨rfl, hd4⟩; have HB4 := Lib.hid hd4.below; clear hd4))
        have HB4w := Lib.hid (HB1.out.trans ((HB2.out.trans ((HB3.out.mono HB2.out.size).trans (HB4.out.mono (Nat.le_trans HB2.out.size HB3.out.size)))).mono hs1))
        have HCz4 := Lib.hid (Kd.C_below HCz.out (HB3.out.trans (HB4.out.mono HB3.out.size)))
        by_cases hz0 : z.length = 0
        · have hl0 := joinF_nil HOK.out (by rw [← HZ1.out]; exact hz0)
          have q1 : ((z.length : Int) == 0) = true := by simp [hz0]
          have q2 : ((l0.length : Int) == 0) = true := by simp [hl0]
          have q1' : (z.length == 0) = true := by simp [hz0]
          have q2' : (l0.length == 0) = true := by simp [hl0]
          clear hz0 hl0
          go_wp2
          go_ret
          exact ⟨rfl, HB4w.out⟩
        · have q1 : ((z.length : Int) == 0) = false := by rw [beq_eq_false_iff_ne]; omega
          have hzp : (1 : Int) ≤ (z.length : Int) := by omega
          have hm0 : 0 ≤ cut % (z.length : Int) := Int.emod_nonneg _ (by omega)
          have hm1 : cut % (z.length : Int) < (z.length : Int) := Int.emod_lt_of_pos _ (by omega)
          obtain ⟨i0, hi0, _, hsz0, _⟩ := info_parts info8
          obtain ⟨hcut, hAc, hle⟩ := print_take_of (P := Try.prog) (Value.int .u8) 0 22 5 .i64 Try.underlying22 hi0 hsz0 Az cz z (cut % (z.length : Int)) hm0 (by omega) hcz
          obtain ⟨x, hx⟩ : ∃ x, z.take (cut % (z.length : Int)).toNat = x := ⟨_, rfl⟩
          have hcc := rowsF_cut l0 (cut % (z.length : Int)).toNat HRB.out (by rw [← HZ1.out]; omega)
          rw [← HZ1.out, hx] at hcc
          rw [hx] at hcut hle
          have HCx := Lib.hid (show ∀ V, Below w2.heap.size w2 V → Kd.C (Kd.int .u8) V Az x.length x from fun V hV => by rw [← hx]; exact Kd.C_of_reads (h1 := fun _ => rfl) (hAc _ (Kd.reads_of_C (Kd.C_below HCz.out hV))))
          have hxb : Bytes x := by rw [← hx]; exact fun y hy => HZB.out y (List.mem_of_mem_take hy)
          have hxl : x.length ≤ 100000 := by rw [← hx, List.length_take]; omega
          have HW4 := Lib.hid (HB3.out.trans (HB4.out.mono HB3.out.size))
          obtain ⟨kl, hkl⟩ := (all_yes x hxb (by omega)).rounds
          have KS2 := Lib.hid (split_calls Az cz x w4 (HCx.out _ HW4.out) hle hxb (by omega))
          obtain ⟨⟨rx, ex⟩, hrx⟩ : ∃ q, rowsF x = q := ⟨_, rfl⟩
          rw [hrx] at hcc hkl KS2
          dsimp only at hcc hkl KS2
          have KL := Lib.hid hkl
          have HCC := Lib.hid hcc.2
          have hor := hcc.1
          have qe : (ex == ex) = true := by simp
          clear hkl hcc hrx hx hAc hxb hi0 hsz0 hz0
          rcases hor with rfl | rfl
          · go_wp2_with (first
              | (go_at_call 16; refine KS2.out.mono ?_; rintro e w5 ⟨v5, rfl, hR5, hb5⟩; have HB5 := Lib.hid hb5; clear hR5 hb5)
              | (go_at_call 17; refine (embrasureref02_All.calls kl Az cz x rx 2 _ (HCx.out _ (HW4.out.trans (HB5.out.mono HW4.out.size))) hle KL.out).mono ?_; rintro e w6 ⟨v6, rfl, hR6, hb6⟩; obtain ⟨A6, c6, hv6, _, _⟩ := Kd.S_reads hR6; subst hv6; have HB6 := Lib.hid hb6; clear hR6 hb6))
            go_ret
            exact ⟨rfl, HB4w.out.trans ((HB5.out.trans (HB6.out.mono HB5.out.size)).mono HB4w.out.size)⟩
          · have q2 : decide ((rx.length : Int) < (l0.length : Int)) = true := decide_eq_true (by have := HCC.out; omega)
            have q2' : decide (rx.length < l0.length) = true := decide_eq_true HCC.out
            go_wp2_with (first
              | (go_at_call 16; refine KS2.out.mono ?_; rintro e w5 ⟨v5, rfl, hR5, hb5⟩; have HB5 := Lib.hid hb5; clear hR5 hb5)
              | (go_at_call 17; refine (embrasureref02_All.calls kl Az cz x rx 0 _ (HCx.out _ (HW4.out.trans (HB5.out.mono HW4.out.size))) hle KL.out).mono ?_; rintro e w6 ⟨v6, rfl, hR6, hb6⟩; obtain ⟨A6, c6, hv6, _, _⟩ := Kd.S_reads hR6; subst hv6; have HB6 := Lib.hid hb6; clear hR6 hb6))
            go_ret
            exact ⟨rfl, HB4w.out.trans ((HB5.out.trans (HB6.out.mono HB5.out.size)).mono HB4w.out.size)⟩
theorem joins_row (A0 : Option Addr) (c0 : Nat) (l0 : List (List Int)) (cut : Int) (w : World) (hr0 : (Kd.slice 5 (Kd.int .u8)).C w A0 l0.length l0) (hc0 : l0.length ≤ c0) (hy0 : l0.length * 24 ≤ 140737488351232) (hb0 : ∀ r ∈ l0, Bytes r) (hn : (Lit.int .u16 cut).wf = true) :
    Calls Try.prog 6 #[.slice A0 l0.length c0, .int .u16 cut] w fun e w' => e = .returned (.bool true) ∧ Below w.heap.size w w' := by
  have hb := wf_bd hn (lo := 0) (hi := 65535) (by decide) (by decide)
  by_cases h0 : l0.length ≤ 60
  · exact joins_in A0 c0 l0 cut w hr0 hc0 hb0 h0 hb.1 hb.2
  · obtain ⟨ka, hka⟩ := awake_yes.rounds
    have Ka := Lib.hid hka
    have g0 : decide (60 < (l0.length : Int)) = true := decide_eq_true (by omega)
    clear hr0 hb0 hka
    go_enter Try.func6, Try.ntmps6
    go_wp2_with (go_at_call 8; refine (embrasurelaw02_awake.calls ka true _ Ka.out).mono ?_; rintro e w1 ⟨rfl, hb1⟩)
    go_ret
    exact ⟨rfl, hb1⟩
end Go.Proofs.Ytcngadkcnnkimaa.Fr
