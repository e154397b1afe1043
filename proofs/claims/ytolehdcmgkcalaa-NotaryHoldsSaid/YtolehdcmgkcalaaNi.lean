/-
  NotaryHolds behind its guards: the walk: it returns true, and nothing that lay has turned. Condition: the texts are bytes of at most 200, the numbers are of their kinds.
-/
import Derived.Test.YtolehdcmgkcalaaNh
import Derived.Deep.CutRange
namespace Go.Proofs.Ytolehdcmgkcalaa.Nt
open Go.RowKit Go.Maps Go.Proofs.YtolehdcmgkcalaaW.PrintWords Go.Proofs.YtolehdcmgkcalaaW.PrintLast Go.Proofs.YtolehdcmgkcalaaW.PrintMore
set_option linter.unusedVariables false
set_option linter.unusedSimpArgs false
set_option maxRecDepth 100000 in
set_option maxHeartbeats 4000000 in
theorem holds_in (w : World) (b1 : Bool) (p1 : Int) (t1 : List Int) (g1 : Int) (A1 : Option Addr) (c1 : Nat) (b2 : Bool) (p2 : Int) (t2 : List Int) (g2 : Int) (A2 : Option Addr) (c2 : Nat) (A : Option Addr) (c : Nat) (l : List Step) (hr : dDo.C w A l.length l) (hc : l.length ≤ c) (hlen : l.length ≤ 140737488355328)
    (hr1 : Kd.C (Kd.int .u8) w A1 t1.length t1) (hc1 : t1.length ≤ c1) (hr2 : Kd.C (Kd.int .u8) w A2 t2.length t2) (hc2 : t2.length ≤ c2) (ok1 : okDo (b1, p1, t1, g1)) (ok2 : okDo (b2, p2, t2, g2)) (hok : ∀ x ∈ l, okDo x)
    (h1 : 1 ≤ p1) (h2 : p1 ≤ 2147483647) (h3 : t1.length ≤ 200) (h4 : t2.length ≤ 200) (h5 : smallB l = true) :
    Calls Try.prog 4 #[.agg #[.bool b1, .int .i64 p1, .slice A1 t1.length c1, .int .u64 g1], .agg #[.bool b2, .int .i64 p2, .slice A2 t2.length c2, .int .u64 g2], .slice A l.length c] w fun e w' => e = .returned (.bool true) ∧ Below w.heap.size w w' := by
  have F1 := Lib.hid (ok1.fine h3).1
  have F2 := Lib.hid (ok2.fine h4).1
  have HA := Lib.hid (fun W => awake_calls W)
  have HS := Lib.hid (fun W (hW : Below w.heap.size w W) => small_calls W A c l (Kd.C_below hr hW) hc hlen)
  have HR := Lib.hid hr
  have HR1 := Lib.hid hr1
  have HR2 := Lib.hid hr2
  have HO := Lib.hid hok
  have H5 := Lib.hid h5
  clear hr hr1 hr2 hok ok1 ok2 h5
  obtain ⟨W, hW⟩ : ∃ W, (w.alloc (.cells #[.bool b1, .int .i64 p1, .slice A1 t1.length c1, .int .u64 g1] 34)).alloc (.cells #[.bool b2, .int .i64 p2, .slice A2 t2.length c2, .int .u64 g2] 34) = W := ⟨_, rfl⟩
  have hbW : Below w.heap.size w W := by rw [← hW]; exact ((Below.refl _ w).alloc (Nat.le_refl _) _).alloc (by simp) _
  have e1 : W.heap[w.heap.size]? = some (.cells #[.bool b1, .int .i64 p1, .slice A1 t1.length c1, .int .u64 g1] 34 (0, 0)) := by
    rw [← hW]; exact (((Below.refl (w.heap.size + 1) (w.alloc _)).alloc (by simp) _).block w.heap.size (by omega)).trans (Boxed2 w _ _)
  have e2 : W.heap[w.heap.size + 1]? = some (.cells #[.bool b2, .int .i64 p2, .slice A2 t2.length c2, .int .u64 g2] 34 (0, 0)) := by
    rw [← hW]; have h := Boxed2 (w.alloc (.cells #[.bool b1, .int .i64 p1, .slice A1 t1.length c1, .int .u64 g1] 34)) 34 #[.bool b2, .int .i64 p2, .slice A2 t2.length c2, .int .u64 g2]; rw [World.size_alloc] at h; exact h
  have HE1 := Lib.hid e1
  have HE2 := Lib.hid e2
  have HB := Lib.hid hbW
  clear e1 e2 hbW
  go_enter Try.func4, Try.ntmps4
  go_upto_region 3 with (go_at_call 7; refine (HA.out _).mono ?_; rintro e w1 ⟨rfl, hb1⟩)
  have hl2 := (Array.getElem?_eq_some_iff.1 HE2.out).1
  have x1 := (hb1.block _ (by omega)).trans HE1.out
  have x2 := (hb1.block _ hl2).trans HE2.out
  have d1 := cell_cells2 x1 1 (by simp)
  have d2 := cell_cells2 x1 2 (by simp)
  have f1 := cell_cells2 x2 1 (by simp)
  have f2 := cell_cells2 x2 2 (by simp)
  simp only [List.getElem_toArray, List.getElem_cons_zero, List.getElem_cons_succ] at d1 d2 f1 f2
  have HB1 := Lib.hid (HB.out.trans (hb1.mono HB.out.size))
  have HF1 := Lib.hid f1
  have HF2 := Lib.hid f2
  clear x1 x2 hb1 hW hl2
  have q1 : decide (p1 < 1) = false := decide_eq_false (by omega)
  have q2 : decide (2147483647 < p1) = false := decide_eq_false (by omega)
  have q3 : decide (200 < (t1.length : Int)) = false := decide_eq_false (by omega)
  have q4 : decide (200 < (t2.length : Int)) = false := decide_eq_false (by omega)
  go_upto_region 8 with (first
    | (go_at_call 8; refine (HS.out _ HB1.out).mono ?_; rintro e w2 ⟨rfl, rfl⟩; rw [H5.out])
    | (go_at_call 9; refine (one_new _).mono ?_; rintro e w2 ⟨g, rfl, hn, hb2⟩))
  have hs1 := HB1.out.size
  have hs2 := hb2.size
  have HN := Lib.hid (hn.sub (av' := fun _ => False) (fun k hk => hk.elim))
  have HB2 := Lib.hid hb2
  have K1 := one_mint w2 w1.heap.size g [] _ p1 A1 c1 t1 HN.out hs2 (Kd.C_below HR1.out (HB1.out.trans (hb2.mono hs1))) hc1 F1.out (by decide)
  rw [mintF_first h1 h2] at K1
  have K1 := Lib.hid K1
  clear hn hb2 f1 f2 d1 d2
  go_upto_region 9 with (go_at_call 12; refine K1.out.mono ?_; rintro e w3 ⟨rfl, hn3, hb3, _⟩)
  have HN3 := Lib.hid hn3
  have HB3 := Lib.hid (HB2.out.trans hb3)
  have hs3 := HB3.out.size
  have f1 := cell_on HB3.out HF1.out
  have f2 := cell_on HB3.out HF2.out
  have HW3 := Lib.hid (HB1.out.trans (HB3.out.mono hs1))
  have k1 := Kd.C_string (src := 31) (dst := 9) (e := 5) (c := c1) Try.underlying31 Try.underlying5 Try.underlying9 (Kd.C_below HR1.out HW3.out)
  have k2 := Kd.C_string (src := 31) (dst := 9) (e := 5) (c := c2) Try.underlying31 Try.underlying5 Try.underlying9 (Kd.C_below HR2.out HW3.out)
  obtain ⟨sm, hsm⟩ : ∃ sm, decide ((p2, t2) = (p1, t1)) = sm := ⟨_, rfl⟩
  have HSM := Lib.hid hsm
  have qb : ((strOfNums t2).toList == (strOfNums t1).toList) = decide (t2 = t1) := beq_str F2.out.2.1 F1.out.2.1
  clear hn3 hb3 hsm
  go_cut [12] from 53 (fun s12 wx => s12 = .bool sm ∧ wx = w3)
  case first =>
    by_cases hp : p2 = p1
    · have hq : (p2 == p1) = true := by simpa using hp
      have e : decide (t2 = t1) = sm := by rw [← HSM.out, decide_eq_decide]; simp [hp]
      rw [e] at qb
      clear hp e
      go_wp2_with fail
      go_meet
      case rel => exact ⟨rfl, rfl⟩
    · have hq : (p2 == p1) = false := by simpa using hp
      have e : sm = false := by rw [← HSM.out]; exact decide_eq_false (fun e => hp (Prod.mk.inj e).1)
      have HE := Lib.hid e
      clear hp qb e
      go_wp2_with fail
      go_meet
      case rel => exact ⟨by rw [HE.out], rfl⟩
  case rest =>
    obtain ⟨hs12, hwc⟩ := hcut
    subst hs12
    obtain ⟨w4, hw4⟩ : ∃ w4, w4 = wc := ⟨_, rfl⟩
    have HW := Lib.hid hwc
    clear hw4 w4
    clear qb k1 k2 hwc
    go_wp2
    go_loopw [13, 14] (fun v13 v14 wr => ∃ (i : Nat) (L : List Ent) (m : Bool), v13 = .bool m ∧ v14 = .int .i64 i ∧ i ≤ l.length ∧ i ≤ 100 ∧ L.length ≤ i + 1 ∧ Hid (OneAt wr w1.heap.size g L (fun _ => False)) ∧ Hid (L[0]? = some (p1, t1)) ∧ Hid (∀ x ∈ L, x = (p2, t2) → m = true) ∧ Hid (Below w1.heap.size w1 wr)) (fun _ v14 _ => l.length - (intOf v14).toNat)
    case atStart => exact ⟨0, [(p1, t1)], sm, rfl, rfl, Nat.zero_le _, by omega, by simp, by rw [HW.out]; exact HN3, Lib.hid rfl, Lib.hid (fun x hx he => by rw [List.mem_singleton.1 hx] at he; rw [← HSM.out]; exact decide_eq_true he.symm), by rw [HW.out]; exact HB3⟩
    case round =>
      obtain ⟨i, L, m, rfl, rfl, hi, hi2, hLi, HT, H0, HM, HBr⟩ := hrel
      have HWr := Lib.hid (HB1.out.trans (HBr.out.mono hs1))
      have f1 := cell_on HBr.out HF1.out
      have f2 := cell_on HBr.out HF2.out
      have hsr := HBr.out.size
      by_cases hin : i < l.length ∧ i < 100
      · obtain ⟨hlt, h100⟩ := hin
        · have b0 : decide ((i : Int) < (l.length : Int)) = true := decide_eq_true (by omega)
          have b1 : (i : Int) < (l.length : Int) := by omega
          have b2 : decide ((i : Int) < 100) = true := decide_eq_true (by omega)
          obtain ⟨x, hx⟩ : ∃ x, l[i] = x := ⟨_, rfl⟩
          have hxi : l[i]? = some x := by rw [getS hlt, hx]
          have hxo := HO.out x (by rw [← hx]; exact List.getElem_mem hlt)
          have hx200 := smallB_at H5.out h100 hxi
          have HX := Lib.hid (hxo.fine hx200)
          obtain ⟨ad, Ax, cx, rfl, k0, k1, k2, k3, hcx, hCx⟩ := at_D HR.out i x hxi rfl
          have KW1 := Lib.hid k1
          have KW2 := Lib.hid k2
          have k0 := cell_on HWr.out k0
          have k1 := cell_on HWr.out k1
          have k2 := cell_on HWr.out k2
          obtain ⟨b, p, t, tag⟩ := x
          dsimp only at k0 k1 k2 hcx hCx hx200
          have HCx := Lib.hid hCx
          clear hx hxi hxo hCx k3
          cases b
          case true =>
            go_wp2
            go_roundw
            case rel => exact ⟨i + 1, L, m, rfl, by go_num, by omega, by omega, by omega, HT, H0, HM, HBr⟩
            case measure => simp [intOf]; omega
          case false =>
            go_wp2_with fail
            go_still_tail 11, (by kernel_rfl)
            obtain ⟨w5, hw5⟩ : ∃ w5, wr.drew = w5 := ⟨_, rfl⟩
            have hb5 : Below wr.heap.size wr w5 := by rw [← hw5]; exact ⟨rfl, rfl, rfl, Nat.le_refl _, fun _ _ => rfl⟩
            have hs5 : w5.heap.size = wr.heap.size := by rw [← hw5]; rfl
            change wpList _ _ _ _ _ wr.drew
            rw [hw5]
            clear hw5
            have HL := Lib.hid (mintF_length L p t)
            have K5 := Lib.hid (one_mint w5 w1.heap.size g L _ p Ax cx t (HT.out.step' hb5) (by omega) (Kd.C_below HCx.out (HWr.out.trans (hb5.mono HWr.out.size))) hcx HX.out.1 (by omega))
            have HB5 := Lib.hid (HBr.out.trans (hb5.mono hsr))
            clear hb5
            go_wp2_with (go_at_call 12; refine K5.out.mono ?_; rintro e w6 ⟨rfl, hT6, hb6, _⟩; have HT6 := Lib.hid hT6; have HB6 := Lib.hid (HB5.out.trans hb6); clear hT6 hb6)
            clear k0 k1 k2 f1 f2
            have HW6 := Lib.hid (HB1.out.trans (HB6.out.mono hs1))
            have f1 := cell_on HB6.out HF1.out
            have f2 := cell_on HB6.out HF2.out
            have k1 := cell_on HW6.out KW1.out
            have k2 := cell_on HW6.out KW2.out
            have j1 : ∀ n, (convert 31 9 (.slice Ax t.length cx)).run Try.prog (w6.drewN n) = .ok (.string (strOfNums t)) (w6.drewN n) := fun n => Kd.C_string (src := 31) (dst := 9) (e := 5) (c := cx) Try.underlying31 Try.underlying5 Try.underlying9 (Kd.C_drewN (Kd.C_below HCx.out HW6.out) n)
            have j2 : ∀ n, (convert 31 9 (.slice A2 t2.length c2)).run Try.prog (w6.drewN n) = .ok (.string (strOfNums t2)) (w6.drewN n) := fun n => Kd.C_string (src := 31) (dst := 9) (e := 5) (c := c2) Try.underlying31 Try.underlying5 Try.underlying9 (Kd.C_drewN (Kd.C_below HR2.out HW6.out) n)
            have HG := Lib.hid (show ∀ n, OneAt (w6.drewN n) w1.heap.size g (mintF L p t).2.2 (fun _ => False) from fun n => HT6.out.step' ⟨rfl, rfl, rfl, Nat.le_refl _, fun _ _ => rfl⟩)
            have HG2 := Lib.hid (show ∀ n, Below w1.heap.size w1 (w6.drewN n) from fun n => HB6.out.trans ⟨rfl, rfl, rfl, Nat.le_refl _, fun _ _ => rfl⟩)
            cases m
            case true =>
              go_quiet (fail)
              go_wp2
              go_roundw
              case rel => exact ⟨i + 1, _, true, rfl, by go_num, by omega, by omega, by have := HL.out; omega, Lib.hid (HG.out _), Lib.hid (mintF_head H0.out), Lib.hid (fun _ _ _ => rfl), Lib.hid (HG2.out _)⟩
              case measure => simp [intOf]; omega
            case false =>
              by_cases hp : p = p2
              · have q1 : (p == p2) = true := by simpa using hp
                by_cases ht : t = t2
                · have q2 : ((strOfNums t).toList == (strOfNums t2).toList) = true := by rw [beq_str HX.out.1.2.1 F2.out.2.1]; exact decide_eq_true ht
                  clear hp ht
                  go_quiet (fail)
                  go_wp2
                  go_roundw
                  case rel => exact ⟨i + 1, _, true, rfl, by go_num, by omega, by omega, by have := HL.out; omega, Lib.hid (HG.out _), Lib.hid (mintF_head H0.out), Lib.hid (fun _ _ _ => rfl), Lib.hid (HG2.out _)⟩
                  case measure => simp [intOf]; omega
                · have q2 : ((strOfNums t).toList == (strOfNums t2).toList) = false := by rw [beq_str HX.out.1.2.1 F2.out.2.1]; exact decide_eq_false ht
                  have HN := Lib.hid (show ∀ y ∈ (mintF L p t).2.2, y = (p2, t2) → false = true from fun y hy he => by
                    rcases mintF_mem hy with h | h
                    · exact HM.out y h he
                    · exact absurd (Prod.mk.inj (h.symm.trans he)).2 ht)
                  clear hp ht
                  go_quiet (fail)
                  go_wp2
                  go_roundw
                  case rel => exact ⟨i + 1, _, false, rfl, by go_num, by omega, by omega, by have := HL.out; omega, Lib.hid (HG.out _), Lib.hid (mintF_head H0.out), HN, Lib.hid (HG2.out _)⟩
                  case measure => simp [intOf]; omega
              · have q1 : (p == p2) = false := by simpa using hp
                have HN := Lib.hid (show ∀ y ∈ (mintF L p t).2.2, y = (p2, t2) → false = true from fun y hy he => by
                    rcases mintF_mem hy with h | h
                    · exact HM.out y h he
                    · exact absurd (Prod.mk.inj (h.symm.trans he)).1 hp)
                clear hp
                go_quiet (fail)
                go_wp2
                go_roundw
                case rel => exact ⟨i + 1, _, false, rfl, by go_num, by omega, by omega, by have := HL.out; omega, Lib.hid (HG.out _), Lib.hid (mintF_head H0.out), HN, Lib.hid (HG2.out _)⟩
                case measure => simp [intOf]; omega
      · go_upto_region 12 with fail
        go_cut [73] from 66 to 116 (fun s73 wx => s73 = .bool false ∧ wx = wr)
        case first =>
          by_cases hlt : i < l.length
          · have b0 : decide ((i : Int) < (l.length : Int)) = true := decide_eq_true (by omega)
            have b2 : decide ((i : Int) < 100) = false := decide_eq_false (by omega)
            go_wp2_with fail
            go_meet
            case rel => exact ⟨rfl, rfl⟩
          · have b0 : decide ((i : Int) < (l.length : Int)) = false := decide_eq_false (by omega)
            go_wp2_with fail
            go_meet
            case rel => exact ⟨rfl, rfl⟩
        case rest =>
         obtain ⟨h73, hwc⟩ := hcut
         subst h73
         have HWC := Lib.hid hwc
         rw [← HWC.out] at HT HBr HWr
         have f1 := cell_on HBr.out HF1.out
         have f2 := cell_on HBr.out HF2.out
         clear hwc HWC
         obtain ⟨wo, rfl⟩ : ∃ wo : World, wo = wc := ⟨_, rfl⟩
         have HC1 := Lib.hid (one_check wo w1.heap.size g L _ p1 A1 c1 t1 1 HT.out (Kd.C_below HR1.out HWr.out) hc1 F1.out (by omega) (by omega))
         have HC2 := Lib.hid (fun n => one_check (wo.drewN n) w1.heap.size g L _ p2 A2 c2 t2 1 (HT.out.step' ⟨rfl, rfl, rfl, Nat.le_refl _, fun _ _ => rfl⟩) (Kd.C_drewN (Kd.C_below HR2.out HWr.out) n) hc2 F2.out (by omega) (by omega))
         have hv1 : checkF L p1 t1 1 = 0 := checkF_zero.2 ⟨by omega, by have := (List.getElem?_eq_some_iff.1 H0.out).1; omega, H0.out⟩
         have HV1 := Lib.hid hv1
         have HV2 := Lib.hid (show checkF L p2 t2 1 = if sm then 0 else 12 from by
           rcases Bool.eq_false_or_eq_true sm with h | h
           · rw [h, if_pos rfl]
             have e := of_decide_eq_true (HSM.out.trans h)
             rw [(Prod.mk.inj e).1, (Prod.mk.inj e).2]; exact hv1
           · rw [h, if_neg (by simp)]
             rcases checkF_or L p2 t2 1 with h0 | h0
             · have e := (checkF_zero.1 h0).2.2
               rw [show ((1 : Int) - 1).toNat = 0 from rfl, H0.out] at e
               have := of_decide_eq_false (HSM.out.trans h)
               exact absurd (Option.some.inj e).symm this
             · exact h0)
         obtain ⟨v2, hv2⟩ : ∃ v2 : Int, (if sm = true then (0 : Int) else 12) = v2 := ⟨_, rfl⟩
         have HVS := Lib.hid (show (v2 == 0) = sm from by rw [← hv2]; cases sm <;> rfl)
         rw [hv2] at HV2
         clear hv2
         have qs1 : (sm == sm) = true := by simp
         clear hv1
         go_upto_region 19 with (first
           | (go_at_call 10; with_reducible refine HC1.out.mono ?_; rintro e wa ⟨rfl, n, rfl⟩; rw [HV1.out])
           | (go_at_call 10; with_reducible refine (HC2.out n).mono ?_; rintro e wa ⟨rfl, n2, hn2⟩; rw [HV2.out]; have qv := HVS.out; have HD := Lib.hid (show Drawn0 wo wa from by rw [hn2]; exact (Drawn0.step ⟨⟨n, rfl⟩⟩ n2)); clear hn2))
         clear qs1 qv f1 f2
         have fa := cell_on HD.out.below (cell_on HBr.out HF1.out)
         have fb := cell_on HD.out.below (cell_on HBr.out HF2.out)
         have HFA := Lib.hid (cell_on HBr.out HF1.out)
         have HFB := Lib.hid (cell_on HBr.out HF2.out)
         clear fa fb
         go_wp2
         go_loopw [15, 16] (fun v15 v16 wx => ∃ (j : Nat) (f : Bool), v15 = .bool f ∧ v16 = .int .i64 j ∧ j ≤ L.length + 2 ∧ Hid (f = true → m = true) ∧ Hid (Drawn0 wo wx)) (fun _ v16 _ => L.length + 2 - (intOf v16).toNat)
         case atStart => exact ⟨0, false, rfl, rfl, by omega, Lib.hid (fun h => by cases h), HD⟩
         case round =>
           obtain ⟨j, f, rfl, rfl, hj, Hf, HDx⟩ := hrel
           have fa := cell_on HDx.out.below HFA.out
           have fb := cell_on HDx.out.below HFB.out
           have HTx := Lib.hid (HT.out.step' HDx.out.below)
           have HN := Lib.hid (one_count wr w1.heap.size g L _ HTx.out)
           by_cases hjl : j ≤ L.length + 1
           · have bj : decide ((j : Int) ≤ (L.length : Int) + 1) = true := decide_eq_true (by omega)
             cases f
             case true =>
               have HFm := Lib.hid (Hf.out rfl)
               clear Hf
               go_wp2_with (go_at_call 14; refine HN.out.mono ?_; rintro e wb ⟨rfl, rfl⟩)
               go_roundw
               case rel => exact ⟨j + 1, true, rfl, by go_num, by omega, Lib.hid (fun _ => HFm.out), HDx⟩
               case measure => simp [intOf]; omega
             case false =>
               obtain ⟨v, hv⟩ : ∃ v, checkF L p2 t2 j = v := ⟨_, rfl⟩
               have KJ := Lib.hid (one_check wr w1.heap.size g L _ p2 A2 c2 t2 j HTx.out (Kd.C_below HR2.out (HWr.out.trans (HDx.out.below.mono HWr.out.size))) hc2 F2.out (by omega) (by omega))
               rw [hv] at KJ
               have ej : IntKind.u64.wrap (j : Int) = j := IntWalk.u64_in _ (by omega)
               have HVJ := Lib.hid hv
               have hor := checkF_or L p2 t2 j
               rw [hv] at hor
               clear hv
               rcases hor with h0 | h0
               · have q0 : (v == 0) = true := by simpa using h0
                 have HMM := Lib.hid (HM.out (p2, t2) (List.mem_of_getElem? (checkF_zero.1 (HVJ.out.trans h0)).2.2) rfl)
                 clear h0
                 go_wp2_with (first
                   | (go_at_call 14; refine HN.out.mono ?_; rintro e wb ⟨rfl, rfl⟩)
                   | (go_at_call 10; refine KJ.out.mono ?_; rintro e wb ⟨rfl, n3, rfl⟩))
                 go_roundw
                 case rel => exact ⟨j + 1, true, rfl, by go_num, by omega, Lib.hid (fun _ => HMM.out), Lib.hid (HDx.out.step _)⟩
                 case measure => simp [intOf]; omega
               · have q0 : (v == 0) = false := by rw [h0]; rfl
                 clear h0
                 go_wp2_with (first
                   | (go_at_call 14; refine HN.out.mono ?_; rintro e wb ⟨rfl, rfl⟩)
                   | (go_at_call 10; refine KJ.out.mono ?_; rintro e wb ⟨rfl, n3, rfl⟩))
                 go_roundw
                 case rel => exact ⟨j + 1, false, rfl, by go_num, by omega, Lib.hid (fun h => by cases h), Lib.hid (HDx.out.step _)⟩
                 case measure => simp [intOf]; omega
           · have bj : decide ((j : Int) ≤ (L.length : Int) + 1) = false := decide_eq_false (by omega)
             cases f
             case true =>
               have hm := Hf.out rfl
               subst hm
               go_wp2_with (go_at_call 14; refine HN.out.mono ?_; rintro e wb ⟨rfl, rfl⟩)
               go_ret
               exact ⟨rfl, HWr.out.trans (HDx.out.below.mono HWr.out.size)⟩
             case false =>
               go_wp2_with (go_at_call 14; refine HN.out.mono ?_; rintro e wb ⟨rfl, rfl⟩)
               go_ret
               exact ⟨rfl, HWr.out.trans (HDx.out.below.mono HWr.out.size)⟩

theorem do_cells {w : World} {cs : Array Value} {x : Step} (h : dDo.K w x cs.toList) : ∃ A c, cs = #[.bool x.1, .int .i64 x.2.1, .slice A x.2.2.1.length c, .int .u64 x.2.2.2] ∧ x.2.2.1.length ≤ c ∧ Kd.C (Kd.int .u8) w A x.2.2.1.length x.2.2.1 := by
  obtain ⟨_, _, h1, rfl, ⟨_, _, rfl, rfl, ⟨_, _, rfl, ⟨A, c, rfl, hl, hC⟩, rfl⟩⟩⟩ := h
  exact ⟨A, c, Array.toList_inj.1 h1, hl, hC⟩
theorem holds_row (cs0 : Array Value) (x0 : Step) (cs1 : Array Value) (x1 : Step) (A : Option Addr) (c : Nat) (l : List Step) (w : World) (hr0 : dDo.K w x0 (Value.agg cs0).cells.toList) (hw0 : okDo x0) (hr1 : dDo.K w x1 (Value.agg cs1).cells.toList) (hw1 : okDo x1)
    (hr : dDo.C w A l.length l) (hc : l.length ≤ c) (hb : l.length * 48 ≤ 140737488351232) (hok : ∀ x ∈ l, okDo x) :
    Calls Try.prog 4 #[.agg cs0, .agg cs1, .slice A l.length c] w fun e w' => e = .returned (.bool true) ∧ Below w.heap.size w w' := by
  obtain ⟨A1, c1, rfl, hc1, hC1⟩ := do_cells hr0
  obtain ⟨A2, c2, rfl, hc2, hC2⟩ := do_cells hr1
  obtain ⟨b1, p1, t1, g1⟩ := x0
  obtain ⟨b2, p2, t2, g2⟩ := x1
  by_cases hg : p1 < 1 ∨ 2147483647 < p1 ∨ 200 < t1.length ∨ 200 < t2.length ∨ smallB l = false
  · exact holds_guard w b1 p1 t1 g1 A1 c1 b2 p2 t2 g2 A2 c2 A c l hr hc (by omega) hg
  · exact holds_in w b1 p1 t1 g1 A1 c1 b2 p2 t2 g2 A2 c2 A c l hr hc (by omega) hC1 hc1 hC2 hc2 hw0 hw1 hok (by omega) (by omega) (by omega) (by omega) (by
      rcases Bool.eq_false_or_eq_true (smallB l) with h | h
      · exact h
      · exact absurd (.inr (.inr (.inr (.inr h)))) hg)
end Go.Proofs.Ytolehdcmgkcalaa.Nt
