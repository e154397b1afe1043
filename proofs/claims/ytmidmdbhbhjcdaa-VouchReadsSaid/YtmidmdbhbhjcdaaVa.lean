/-
  The law's awake, and what the laws have in common: the rows of vouchers. No condition.
-/
import Derived.Test.YtmidmdbhbhjcdaaVm
namespace Go.Proofs.Ytmidmdbhbhjcdaa.By
open Go.RowKit Go.Shelf Go.Proofs.Ytmidmdbhbhjcdaa.Sp Go.Proofs.Ytmidmdbhbhjcdaa.Nt Go.Proofs.Ytmidmdbhbhjcdaa.H Go.Proofs.Ytmidmdbhbhjcdaa.Uv Go.Proofs.Ytmidmdbhbhjcdaa.Fr Go.Proofs.YtmidmdbhbhjcdaaW.PrintWords Go.Proofs.YtmidmdbhbhjcdaaW.PrintLast Go.Proofs.YtmidmdbhbhjcdaaW.PrintMore
set_option linter.unusedVariables false
set_option linter.unusedSimpArgs false
theorem vouch_good {r p u tag : Int} (h : mayF r p u = true) (h0 : 0 ≤ tag) (h1 : tag ≤ 9223372036854775807) : Good (vouchI r p u tag) r p u tag := ⟨h, h0, h1, rfl⟩
theorem vouch_bytes {r p u tag : Int} (h : mayF r p u = true) (h0 : 0 ≤ tag) : Bytes (vouchI r p u tag) := by
  unfold vouchI frameI
  exact Bytes.app (Bytes.app (fun x hx => putI_bytes _ (by omega) x hx) (textL_bytes (fun x hx => (may_nums h x hx).1))) (fun x hx => putI_bytes _ h0 x hx)
theorem vouch_len (r p u tag : Int) : (vouchI r p u tag).length ≤ 50 := by
  unfold vouchI frameI
  rw [List.length_append, List.length_append]
  have := text3_len r p u
  have := putI_len_le tag
  have := putI_len_le ((textL [r, p, u]).length : Int)
  omega
theorem read_nil : readV [] = (0, 0, 0, 0, 3) := readV_bad fun r p u tag h => by
  have := good_len h
  have h2 := frame_pos (textL [r, p, u]) (by have := text3_len r p u; omega)
  unfold frameI at this
  rw [List.length_append] at this
  simp at this
  omega
def L1 : List Ent := [(1, textL [1, 2, 9])]
theorem make1 : makeF [] 1 2 9 = (vouchI 1 2 9 1, 0, L1) := by
  unfold makeF mintF
  rw [if_pos (by decide), if_neg (by decide), if_neg (by simp)]
  rfl
theorem check1 : checkV L1 (vouchI 1 2 9 1) 1 2 8 = (9, 0) := by
  rw [checkV_good (readV_good (vouch_good (by decide) (by decide) (by decide)))]
  decide
theorem check2 : checkV L1 (vouchI 1 2 9 1) 1 2 9 = (0, 11) := by
  rw [checkV_good (readV_good (vouch_good (by decide) (by decide) (by decide)))]
  decide
theorem check3 : checkV L1 (vouchI 1 2 9 1) 2 1 8 = (0, 7) := by
  rw [checkV_good (readV_good (vouch_good (by decide) (by decide) (by decide)))]
  decide
set_option maxRecDepth 100000 in
set_option maxHeartbeats 2000000 in
theorem awake_calls (w : World) : Calls Try.prog 7 #[] w fun e w' => e = .returned (.bool true) ∧ Below w.heap.size w w' := by
  have q25 : ∀ (w : World) (a : Addr), (binOp .eql 27 (.pointer (some a)) (.pointer none)).run Try.prog w = .ok (.bool false) w := fun w a => by kernel_rfl
  have E8 := Lib.hid (show (vouchI 1 2 9 1).length = 8 by decide)
  go_enter Try.func7, Try.ntmps7
  go_upto_region 4 with (go_at_call 8; refine (one_new _).mono ?_; rintro e w1 ⟨g, rfl, h1, hb1⟩; have H1 := Lib.hid (h1.sub (av' := fun _ => False) (fun k hk => hk.elim)); have HB1 := Lib.hid hb1; clear h1 hb1)
  have K1 := make_calls w1 w.heap.size g [] (fun _ => False) 1 2 9 H1.out HB1.out.size (by simp)
  rw [make1] at K1
  dsimp only at K1
  have K1 := Lib.hid K1
  go_upto_region 5 with (go_at_call 17; with_reducible refine K1.out.mono ?_; rintro e w2 ⟨v2, s, rfl, hR2, hs, h2, hb2, _⟩; obtain ⟨A2, c2, hv2, hc2, hC2⟩ := Kd.R_reads hR2; rw [E8.out] at hv2 hc2 hC2; subst hv2; have H2 := Lib.hid (h2.sub (av' := fun _ => False) (fun k hk => hk.elim)); have HB2 := Lib.hid (HB1.out.trans hb2); have HC2 := Lib.hid hC2; clear hR2 h2 hb2 hC2)
  have hbv := Lib.hid (vouch_bytes (r := 1) (p := 2) (u := 9) (tag := 1) (by decide) (by decide))
  have K3 := Lib.hid (fun (W : World) (hW : Below w2.heap.size w2 W) (a b n : Int) => vcheck_calls W w.heap.size g L1 (fun _ => False) A2 8 c2 (vouchI 1 2 9 1) a b n (H2.out.step' hW) (by decide) E8.out.symm (Kd.C_below HC2.out hW) hc2 hbv.out (by decide))
  have x1 := Lib.hid check1
  have x2 := Lib.hid check2
  have x3 := Lib.hid check3
  have K6 := Lib.hid (fun (W : World) => read_calls W none 0 0 [] rfl (Kd.R_reads' (Kd.R_nil (Kd.int .u8) 5 W 0 (fun _ => True))).2.2 (Nat.le_refl _) (fun x hx => by cases hx) (by decide))
  have xr := Lib.hid (show readR [] = .tuple #[.int .i64 0, .int .i64 0, .int .i64 0, .int .u64 0, .int .i64 3] by unfold readR; rw [read_nil])
  go_wp2_with (first
    | (go_at_call 15; (with_reducible refine (K3.out w2 (Below.refl _ _) 1 2 8).mono ?_); rw [x1.out]; rintro e w3 ⟨rfl, hb3⟩; have HB3 := Lib.hid hb3; clear hb3)
    | (go_at_call 15; (with_reducible refine (K3.out w3 HB3.out 1 2 9).mono ?_); rw [x2.out]; rintro e w4 ⟨rfl, hb4⟩; have HB4 := Lib.hid (HB3.out.trans (hb4.mono HB3.out.size)); clear hb4)
    | (go_at_call 15; (with_reducible refine (K3.out w4 HB4.out 2 1 8).mono ?_); rw [x3.out]; rintro e w5 ⟨rfl, hb5⟩; have HB5 := Lib.hid (HB4.out.trans (hb5.mono HB4.out.size)); clear hb5)
    | (go_at_call 13; (with_reducible refine (K6.out w5).mono ?_); rw [xr.out]; rintro e w6 ⟨rfl, hb6⟩; have HB6 := Lib.hid (HB5.out.trans (hb6.mono HB5.out.size)); clear hb6))
  go_ret
  exact ⟨rfl, HB2.out.trans (HB6.out.mono HB2.out.size)⟩
end Go.Proofs.Ytmidmdbhbhjcdaa.By
