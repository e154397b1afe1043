/-
  NotaryPlays: the walk of the law: whatever the script: it returns true, and nothing that lay has turned. Condition: the script's texts are bytes, its numbers are of their kinds.
-/
import Derived.Test.YtolehdcmgkcalaaNa
import Derived.Test.YtolehdcmgkcalaaOp
namespace Go.Proofs.Ytolehdcmgkcalaa.Nt
open Go.RowKit Go.Maps Go.Proofs.YtolehdcmgkcalaaW.PrintWords Go.Proofs.YtolehdcmgkcalaaW.PrintLast Go.Proofs.YtolehdcmgkcalaaW.PrintMore
set_option linter.unusedVariables false
set_option linter.unusedSimpArgs false

abbrev Step := Bool × Int × List Int × Int
def dDo : Kd Step := Kd.pair Kd.bool (Kd.pair (Kd.int .i64) (Kd.pair (Kd.slice 5 (Kd.int .u8)) (Kd.int .u64)))
def okDo (x : Step) : Prop := ((-9223372036854775808 ≤ x.2.1 ∧ x.2.1 ≤ 9223372036854775807) ∧ ∀ b ∈ x.2.2.1, 0 ≤ b ∧ b ≤ 255) ∧ 0 ≤ x.2.2.2 ∧ x.2.2.2 ≤ 18446744073709551615
theorem okDo.fine {x : Step} (h : okDo x) (hl : x.2.2.1.length ≤ 200) : Nt.fine (x.2.1, x.2.2.1) ∧ 0 ≤ x.2.2.2 ∧ x.2.2.2 ≤ 18446744073709551615 := ⟨⟨h.1.1, h.1.2, by show x.2.2.1.length ≤ _; omega⟩, h.2⟩
theorem at_D {w : World} {A : Option Addr} {n : Nat} {l : List Step} (h : dDo.C w A n l) (i : Nat) (x : Step) (hx : l[i]? = some x) (hn : n = l.length) : ∃ ad A2 c2, A = some ad ∧ w.cell? (ad.add (i * 4)) = some (.bool x.1) ∧ w.cell? ⟨(ad.add (i * 4)).block, (ad.add (i * 4)).off + 1, none⟩ = some (.int .i64 x.2.1) ∧
    w.cell? ⟨(ad.add (i * 4)).block, (ad.add (i * 4)).off + 2, none⟩ = some (.slice A2 x.2.2.1.length c2) ∧ w.cell? ⟨(ad.add (i * 4)).block, (ad.add (i * 4)).off + 3, none⟩ = some (.int .u64 x.2.2.2) ∧ x.2.2.1.length ≤ c2 ∧ (Kd.int .u8).C w A2 x.2.2.1.length x.2.2.1 := by
  have hi := (List.getElem?_eq_some_iff.1 hx).1
  obtain ⟨ad, c, e, _, hK, hc⟩ := Kd.C_get h (false, 0, [], 0) i (by omega) (by omega)
  have hg : l.getD (i : Int).toNat (false, 0, [], 0) = x := by rw [Int.toNat_natCast, List.getD_eq_getElem?_getD, hx]; rfl
  rw [hg] at hK
  obtain ⟨_, _, rfl, rfl, ⟨_, _, rfl, rfl, ⟨_, _, rfl, ⟨A2, c2, rfl, hl, hC⟩, rfl⟩⟩⟩ := hK
  exact ⟨ad, A2, c2, e, hc 0 _ rfl, by rw [← add_field _ _ 1 (by omega)]; exact hc 1 _ rfl, by rw [← add_field _ _ 2 (by omega)]; exact hc 2 _ rfl, by rw [← add_field _ _ 3 (by omega)]; exact hc 3 _ rfl, hl, hC⟩
def smallB (l : List Step) : Bool := (l.take 100).all fun x => decide (x.2.2.1.length ≤ 200)
theorem smallB_at {l : List Step} (h : smallB l = true) {i : Nat} {x : Step} (hi : i < 100) (hx : l[i]? = some x) : x.2.2.1.length ≤ 200 := by
  have h1 : (l.take 100)[i]? = some x := by rw [List.getElem?_take, if_pos hi, hx]
  have := List.all_eq_true.1 h x (List.mem_of_getElem? h1)
  simpa using this
theorem getS {l : List Step} {i : Nat} (h : i < l.length) : l[i]? = some l[i] := List.getElem?_eq_getElem h
set_option maxRecDepth 100000 in
set_option maxHeartbeats 1000000 in
theorem small_calls (w : World) (A : Option Addr) (c : Nat) (l : List Step) (hr : dDo.C w A l.length l) (hc : l.length ≤ c) (hlen : l.length ≤ 140737488355328) :
    Calls Try.prog 8 #[.slice A l.length c] w fun e w' => e = .returned (.bool (smallB l)) ∧ w = w' := by
  have HR := Lib.hid hr
  clear hr
  obtain ⟨R, hR⟩ : ∃ R, smallB l = R := ⟨_, rfl⟩
  rw [hR]
  have HE := Lib.hid hR
  clear hR
  go_enter Try.func8, Try.ntmps8
  go_wp2
  go_loop [3] (fun v3 => ∃ i : Nat, v3 = .int .i64 i ∧ i ≤ l.length ∧ i ≤ 100 ∧ Hid (∀ x ∈ l.take i, x.2.2.1.length ≤ 200)) (fun v3 => l.length - (intOf v3).toNat)
  case atStart => exact ⟨0, rfl, Nat.zero_le _, by omega, Lib.hid (by simp)⟩
  case round =>
    obtain ⟨i, rfl, hi, hi2, HT⟩ := hrel
    by_cases hlt : i < l.length
    · have b0 : decide ((i : Int) < (l.length : Int)) = true := decide_eq_true (by omega)
      have b1 : (i : Int) < (l.length : Int) := by omega
      by_cases h100 : i < 100
      · have b2 : decide ((i : Int) < 100) = true := decide_eq_true (by omega)
        obtain ⟨x, hx⟩ : ∃ x, l[i] = x := ⟨_, rfl⟩
        obtain ⟨ad, A2, c2, rfl, _, _, k2, _, _, _⟩ := at_D HR.out i x (by rw [getS hlt, hx]) rfl
        have HX := Lib.hid hx
        clear hx
        by_cases hbig : x.2.2.1.length ≤ 200
        · have b3 : decide (200 < (x.2.2.1.length : Int)) = false := decide_eq_false (by omega)
          have HB := Lib.hid hbig
          clear hbig
          go_wp2
          go_round
          case rel => exact ⟨i + 1, by go_num, by omega, by omega, Lib.hid (fun y hy => by
            rw [List.take_succ_eq_append_getElem hlt] at hy
            rcases List.mem_append.1 hy with hy | hy
            · exact HT.out y hy
            · rw [List.mem_singleton.1 hy, HX.out]; exact HB.out)⟩
          case measure => simp [intOf]; omega
        · have b3 : decide (200 < (x.2.2.1.length : Int)) = true := decide_eq_true (by omega)
          have HB := Lib.hid hbig
          clear hbig
          go_wp2
          go_ret
          refine ⟨?_, rfl⟩
          have : smallB l = false := by
            rw [← Bool.not_eq_true]
            intro hs
            exact HB.out (smallB_at hs h100 (by rw [getS hlt, HX.out]))
          rw [← HE.out, this]
          rfl
      · have b2 : decide ((i : Int) < 100) = false := decide_eq_false (by omega)
        go_wp2
        go_ret
        refine ⟨?_, rfl⟩
        have : smallB l = true := by
          unfold smallB
          rw [List.all_eq_true]
          intro x hx
          rw [show (100 : Nat) = i by omega] at hx
          simpa using HT.out x hx
        rw [← HE.out, this]
        rfl
    · have b0 : decide ((i : Int) < (l.length : Int)) = false := decide_eq_false (by omega)
      go_wp2
      go_ret
      refine ⟨?_, rfl⟩
      have : smallB l = true := by
        unfold smallB
        rw [List.all_eq_true]
        intro x hx
        have hx' : x ∈ l.take i := by rw [List.take_of_length_le (by omega)]; exact List.mem_of_mem_take hx
        simpa using HT.out x hx'
      rw [← HE.out, this]
      rfl

theorem cell_on {w wx : World} {a : Addr} {v : Value} (hb : Below w.heap.size w wx) (h : w.cell? a = some v) : wx.cell? a = some v := (hb.cell (World.block_lt_of_cell? _ _ h)).trans h
theorem box_cells {w : World} {cs : Array Value} {t : TypeId} (j : Nat) (hj : j < cs.size) : (w.alloc (.cells cs t)).cell? ⟨w.heap.size, j, none⟩ = some cs[j] := cell_cells2 (Boxed2 w t cs) j hj
set_option maxRecDepth 100000 in
set_option maxHeartbeats 4000000 in
theorem plays_calls (w : World) (A : Option Addr) (c : Nat) (l : List Step) (hr : dDo.C w A l.length l) (hc : l.length ≤ c) (hlen : l.length ≤ 140737488355328) (hok : ∀ x ∈ l, okDo x) :
    Calls Try.prog 3 #[.slice A l.length c] w fun e w' => e = .returned (.bool true) ∧ Below w.heap.size w w' := by
  have HR := Lib.hid hr
  have HO := Lib.hid hok
  clear hr hok
  have HA := Lib.hid (awake_calls w)
  have HS := Lib.hid (fun W (hW : Below w.heap.size w W) => small_calls W A c l (Kd.C_below HR.out hW) hc hlen)
  go_enter Try.func3, Try.ntmps3
  rcases Bool.eq_false_or_eq_true (smallB l) with hs | hs'
  case inr =>
    go_wp2_with (first
      | (go_at_call 7; refine HA.out.mono ?_; rintro e w1 ⟨rfl, hb1⟩)
      | (go_at_call 8; refine (HS.out _ hb1).mono ?_; rintro e w2 ⟨rfl, rfl⟩; rw [hs']))
    go_ret
    exact ⟨rfl, hb1⟩
  case inl =>
    have HSM := Lib.hid hs
    clear hs
    go_upto_region 7 with (first
      | (go_at_call 7; refine HA.out.mono ?_; rintro e w1 ⟨rfl, hb1⟩)
      | (go_at_call 8; refine (HS.out _ hb1).mono ?_; rintro e w2 ⟨rfl, rfl⟩; rw [HSM.out])
      | (go_at_call 9; refine (one_new _).mono ?_; rintro e w2 ⟨g, rfl, h2, hb2⟩))
    have hb1s := hb1.size
    have hb2s := hb2.size
    have H3 := Lib.hid ((TwoAt.start h2 hb2s).sub (av' := fun _ => False) (fun k hk => hk.elim))
    obtain ⟨r, hr⟩ : ∃ r, w2.heap.size = r := ⟨_, rfl⟩
    have hb3 : Below w.heap.size w (w2.alloc (.cells #[.slice none 0 0] 30)) := hb1.trans ((hb2.mono hb1s).trans ((Below.refl w.heap.size w2).alloc (by omega) _))
    have hs3 : w1.heap.size ≤ (w2.alloc (.cells #[.slice none 0 0] 30)).heap.size := by simp; omega
    obtain ⟨W0, hW0⟩ : ∃ W0, w2.alloc (.cells #[.slice none 0 0] 30) = W0 := ⟨_, rfl⟩
    rw [hr, hW0] at H3
    rw [hW0] at hb3 hs3
    rw [hr, hW0]
    have HB3 := Lib.hid hb3
    have HB1 := Lib.hid hb1
    clear hr hW0 hb3 hb2 hb2s h2 hb1
    go_wp2
    go_loopw [5] (fun v5 wr => ∃ (i : Nat) (L : List Ent), v5 = .int .i64 i ∧ i ≤ l.length ∧ i ≤ 100 ∧ L.length ≤ i ∧ Hid (TwoAt wr w1.heap.size g L r L (fun _ => False)) ∧ Hid (Below w.heap.size w wr) ∧ w1.heap.size ≤ wr.heap.size) (fun v5 _ => l.length - (intOf v5).toNat)
    case atStart => exact ⟨0, [], rfl, Nat.zero_le _, by omega, by simp, H3, HB3, hs3⟩
    case round =>
      obtain ⟨i, L, rfl, hi, hi2, hLi, HT, HB, hsz⟩ := hrel
      by_cases hlt : i < l.length
      · have b0 : decide ((i : Int) < (l.length : Int)) = true := decide_eq_true (by omega)
        have b1 : (i : Int) < (l.length : Int) := by omega
        by_cases h100 : i < 100
        · have b2 : decide ((i : Int) < 100) = true := decide_eq_true (by omega)
          obtain ⟨x, hx⟩ : ∃ x, l[i] = x := ⟨_, rfl⟩
          have hxi : l[i]? = some x := by rw [getS hlt, hx]
          have hxo := HO.out x (by rw [← hx]; exact List.getElem_mem hlt)
          have hx200 := smallB_at HSM.out h100 hxi
          have hxo := hxo.fine hx200
          obtain ⟨ad, A2, c2, rfl, k0, k1, k2, k3, hc2, hC2⟩ := at_D HR.out i x hxi rfl
          have k0 := cell_on HB.out k0
          have k1 := cell_on HB.out k1
          have k2 := cell_on HB.out k2
          have k3 := cell_on HB.out k3
          obtain ⟨b, p, t, tag⟩ := x
          dsimp only at k0 k1 k2 k3 hc2 hC2 hx200
          have HX := Lib.hid hxo
          obtain ⟨W3, hW3⟩ : ∃ W3, wr.alloc (.cells #[.bool b, .int .i64 p, .slice A2 t.length c2, .int .u64 tag] 34) = W3 := ⟨_, rfl⟩
          have h3b : Below wr.heap.size wr W3 := by rw [← hW3]; exact (Below.refl _ _).alloc (Nat.le_refl _) _
          have h3c : W3.heap[wr.heap.size]? = some (.cells #[.bool b, .int .i64 p, .slice A2 t.length c2, .int .u64 tag] 34 (0, 0)) := by rw [← hW3]; exact Boxed2 _ _ _
          have h3s : W3.heap.size = wr.heap.size + 1 := by rw [← hW3]; simp
          have d0 := cell_cells2 h3c 0 (by simp)
          have d1 := cell_cells2 h3c 1 (by simp)
          have d2 := cell_cells2 h3c 2 (by simp)
          have d3 := cell_cells2 h3c 3 (by simp)
          simp only [List.getElem_toArray, List.getElem_cons_zero, List.getElem_cons_succ] at d0 d1 d2 d3
          have HT3 := Lib.hid ((HT.out.step h3b).sub (av' := fun k => k = wr.heap.size) (fun k hk => .inr (by omega)))
          have HC2 := Lib.hid hC2
          have HC3 := Lib.hid (Kd.C_below hC2 (HB.out.trans (h3b.mono HB.out.size)))
          have HE3 := Lib.hid h3c
          have H3b := Lib.hid h3b
          clear hx hxi hxo hC2 h3c h3b
          have H2 := Lib.hid hx200
          have hL1 : L.length ≤ 1000000 := by omega
          have ht1 : t.length ≤ 1000000 := by omega
          clear hx200
          cases b
          case true =>
            obtain ⟨vv, hvv⟩ : ∃ vv, checkF L p t tag = vv := ⟨_, rfl⟩
            have KC := Lib.hid (show ∀ n, Calls Try.prog 10 #[.pointer (some ⟨g, 0, none⟩), .int .i64 p, .slice A2 t.length c2, .int .u64 tag] (W3.drewN n) fun e w' => e = .returned (.int .i64 vv) ∧ ∃ m, w' = (W3.drewN n).drewN m from fun n => by
              rw [← hvv]; exact two_check _ w1.heap.size g r L L _ p A2 c2 t tag (HT3.out.step' ⟨rfl, rfl, rfl, Nat.le_refl _, fun _ _ => rfl⟩) (Kd.C_drewN HC3.out n) hc2 HX.out.1 hL1 HX.out.2)
            have KR := Lib.hid (show ∀ n, Calls Try.prog 11 #[.pointer (some ⟨r, 0, none⟩), .int .i64 p, .slice A2 t.length c2, .int .u64 tag] (W3.drewN n) fun e w' => e = .returned (.int .i64 vv) ∧ ∃ m, w' = (W3.drewN n).drewN m from fun n => by
              rw [← hvv]; exact two_rcheck _ w1.heap.size g r L L _ p A2 c2 t tag (HT3.out.step' ⟨rfl, rfl, rfl, Nat.le_refl _, fun _ _ => rfl⟩) (Kd.C_drewN HC3.out n) hc2 hL1 HT3.out.fine)
            have q1 : (vv == vv) = true := by simp
            clear hvv
            go_wp2_with fail
            clear hW3
            go_quiet (first | (go_at_call 10; exact Calls.quiet_of (KC.out _)) | (go_at_call 11; exact Calls.quiet_of (KR.out _)))
            go_wp2
            go_roundw
            case rel => exact ⟨i + 1, L, by go_num, by omega, by omega, by omega, Lib.hid ((HT3.out.step' ⟨rfl, rfl, rfl, Nat.le_refl _, fun _ _ => rfl⟩).sub (fun k hk => hk.elim)), Lib.hid ((HB.out.trans (H3b.out.mono HB.out.size)).trans ⟨rfl, rfl, rfl, Nat.le_refl _, fun _ _ => rfl⟩), by show w1.heap.size ≤ W3.heap.size; omega⟩
            case measure => simp [intOf]; omega
          case false =>
            obtain ⟨⟨a, e, L'⟩, hm⟩ : ∃ R, mintF L p t = R := ⟨_, rfl⟩
            have hLf := mintF_fine HT3.out.fine HX.out.1
            have hLl := mintF_length L p t
            have K1 := two_mint W3 w1.heap.size g r L L _ p A2 c2 t HT3.out (by omega) HC3.out hc2 HX.out.1 hL1
            rw [hm] at hLf hLl K1
            dsimp only at hLf hLl K1
            have K1 := Lib.hid K1
            have HM := Lib.hid hm
            have HLf := Lib.hid hLf
            clear hm hLf
            go_upto_region 15 with (go_at_call 12; refine K1.out.mono ?_; rintro e w4 ⟨rfl, hT4, hb4, hk4⟩)
            clear hW3 k0 k1 k2 k3
            have h4e := (hk4 _ rfl).trans HE3.out
            have f1 := cell_cells2 h4e 1 (by simp)
            have f2 := cell_cells2 h4e 2 (by simp)
            simp only [List.getElem_toArray, List.getElem_cons_zero, List.getElem_cons_succ] at f1 f2
            have hBs := HB.out.size
            have HB4 := Lib.hid (HB.out.trans ((H3b.out.mono hBs).trans (hb4.mono hb1s)))
            have hs4 := hb4.size
            have K2 := Lib.hid (two_rmint w4 w1.heap.size g r L' L _ p A2 c2 t hT4 (by omega) (Kd.C_below HC2.out HB4.out) hc2 ht1 hL1 HT3.out.fine)
            have K2 := K2.out
            rw [HM.out] at K2
            dsimp only at K2
            have K2 := Lib.hid K2
            clear hT4 hb4 hk4 h4e hBs
            go_upto_region 16 with (go_at_call 13; refine K2.out.mono ?_; rintro e w5 ⟨rfl, hT5, hb5, _⟩)
            have KN := Lib.hid (show ∀ n, Calls Try.prog 14 #[.pointer (some ⟨g, 0, none⟩)] (w5.drewN n) fun e w' => e = .returned (.int .i64 L'.length) ∧ w' = w5.drewN n from fun n => (two_count (w5.drewN n) w1.heap.size g r L' L' _ (hT5.step' ⟨rfl, rfl, rfl, Nat.le_refl _, fun _ _ => rfl⟩)).mono fun e w' ⟨h1, h2⟩ => ⟨h1, h2.symm⟩)
            obtain ⟨Ar, cr, c5⟩ := hT5.rcell
            have HT5 := Lib.hid (hT5.sub (av' := fun _ => False) (fun k hk => hk.elim))
            have hs5 := hb5.size
            have HB5 := Lib.hid (HB4.out.trans (hb5.mono hb1s))
            have q1 : (a == a) = true := by simp
            have q2 : (e == e) = true := by simp
            have q3 : ((L'.length : Int) == (L'.length : Int)) = true := by simp
            clear hT5 hb5 d0 d1 d2 d3 f1 f2
            go_quiet (first | (go_at_call 14; exact Calls.quiet_of_same (KN.out _)))
            go_wp2
            go_roundw
            case rel => exact ⟨i + 1, L', by go_num, by omega, by omega, by omega, Lib.hid (HT5.out.step' ⟨rfl, rfl, rfl, Nat.le_refl _, fun _ _ => rfl⟩), Lib.hid (HB5.out.trans ⟨rfl, rfl, rfl, Nat.le_refl _, fun _ _ => rfl⟩), by show w1.heap.size ≤ w5.heap.size; omega⟩
            case measure => simp [intOf]; omega
        · have b2 : decide ((i : Int) < 100) = false := decide_eq_false (by omega)
          go_wp2
          go_ret
          exact ⟨rfl, HB.out⟩
      · have b0 : decide ((i : Int) < (l.length : Int)) = false := decide_eq_false (by omega)
        go_wp2
        go_ret
        exact ⟨rfl, HB.out⟩

/-! ### what a script is -/
theorem wf_bd {k : IntKind} {n lo hi : Int} (h : (Lit.int k n).wf = true) (hl : k.min = lo) (hh : k.max = hi) : lo ≤ n ∧ n ≤ hi := by
  simp only [Lit.wf, Bool.and_eq_true, decide_eq_true_eq] at h
  rw [hl, hh] at h
  exact h
theorem opens_Do : Op.Opens Try.prog 34 dDo okDo :=
  Op.opens_mono (Op.opens_struct Try.underlying34 (by kernel_rfl)
    (Op.opensF_cons rfl (by kernel_rfl) (Op.opens_bool Try.underlying4)
      (Op.opensF_cons rfl (by kernel_rfl) (Op.opens_int Try.underlying3)
        (Op.opensF_cons rfl (by kernel_rfl) (Op.opens_slice Try.underlying31 (by kernel_rfl) (Op.opens_int Try.underlying5))
          (Op.opensF_one rfl (by kernel_rfl) (Op.opens_int Try.underlying32))))))
    (fun y h => ⟨⟨wf_bd h.2.1 (by decide) (by decide), fun b hb => wf_bd (h.2.2.1.2 b hb) (by decide) (by decide)⟩, wf_bd h.2.2.2 (by decide) (by decide)⟩)
theorem opens_script : Op.Opens Try.prog 22 (Kd.slice 34 dDo) (fun l => ∀ x ∈ l, okDo x) := Op.opens_mono (Op.opens_slice Try.underlying22 (by kernel_rfl) opens_Do) (fun y h => h.2)
theorem plays_row (A : Option Addr) (c : Nat) (l : List Step) (w : World) (hr : dDo.C w A l.length l) (hc : l.length ≤ c) (hb : l.length * 48 ≤ 140737488351232) (hok : ∀ x ∈ l, okDo x) :
    Calls Try.prog 3 #[.slice A l.length c] w fun e w' => e = .returned (.bool true) ∧ Below w.heap.size w w' := plays_calls w A c l hr hc (by omega) hok
end Go.Proofs.Ytolehdcmgkcalaa.Nt
