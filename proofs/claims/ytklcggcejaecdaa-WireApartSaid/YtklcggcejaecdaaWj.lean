/-
  wire's reader: the iterator of its addresses. Conditions: bytes are bytes.
-/
import Derived.Test.YtklcggcejaecdaaWi
import Derived.Deep.RegionHeld3
import Derived.BigRegion
namespace Go.Proofs.Ytklcggcejaecdaa.Wi
open Go.RowKit Go.Shelf Go.Proofs.Ytklcggcejaecdaa.H Go.Proofs.Ytklcggcejaecdaa.Uv Go.Proofs.Ytklcggcejaecdaa.Fr Go.Proofs.YtklcggcejaecdaaW.PrintWords Go.Proofs.YtklcggcejaecdaaW.PrintLast Go.Proofs.YtklcggcejaecdaaW.PrintMore
set_option linter.unusedVariables false
set_option linter.unusedSimpArgs false
attribute [local go_sem] Oper.semAt_some
/-- So many addresses read: they, what is left, and whether something was wrong. -/
def addrsF : Nat → List Int → Bool → List AddrP × List Int × Bool
  | 0, x, b => ([], x, b)
  | n + 1, x, b => if x.length < 6 then ([], x, true) else (((addrV (x.take 6)).1, (addrV (x.take 6)).2.1) :: (addrsF n (x.drop 6) (b || (addrV (x.take 6)).2.2 != 0)).1, (addrsF n (x.drop 6) (b || (addrV (x.take 6)).2.2 != 0)).2)
theorem addrsF_len : ∀ (n : Nat) (x : List Int) (b : Bool), (addrsF n x b).1.length ≤ n
  | 0, _, _ => Nat.le_refl _
  | n + 1, x, b => by
    simp only [addrsF]
    split
    · exact Nat.zero_le _
    · simp only [List.length_cons]
      have := addrsF_len n (x.drop 6) (b || (addrV (x.take 6)).2.2 != 0)
      omega
theorem roundIn_wide' {m m' : Nat} {P : Program} {l : Nat} {f : FuncId} {tmps : Array Value} {assign body : Code} {w : World} {R : Ending → World → Prop} (h : RoundIn Fence.wide m P l f tmps assign body w R) : RoundIn Fence.wide m' P l f tmps assign body w R :=
  ⟨h.1, fun c cs _ => h.2 c cs (fun d hd => by cases hd)⟩
theorem addrs_calls (w : World) (g : Nat) (cnt : Int) : Calls Try.prog 36 #[.pointer (some ⟨g, 0, none⟩), .int .i64 cnt] w fun e w' => e = .returned (.func (.func 45) #[] #[.pointer (some ⟨w.heap.size + 1, 0, none⟩), .pointer (some ⟨w.heap.size, 0, none⟩)]) ∧ w' = (w.alloc (.cells #[.pointer (some ⟨g, 0, none⟩)] 56)).alloc (.cells #[.int .i64 cnt] 3) := by
  go_enter Try.func36, Try.ntmps36
  go_wp2
  go_ret
  exact ⟨rfl, rfl⟩
set_option maxRecDepth 100000 in
set_option maxHeartbeats 2000000 in
theorem addrs1_told (n : Nat) (hn : 1 ≤ n) (S : Nat → Prop) (W0 w : World) (Bn Br g cnt : Nat) (l : List Int) (bad : Bool) (hR : RdAt W0 w g l bad) (hs : ∀ V, KeepS (fun b => S b ∧ b ≠ g) w V → Same W0 V) (hSg : S g) (hSn : S Bn) (hSr : S Br) (hS : ∀ b, S b → b < w.heap.size)
    (c1 : w.cell? ⟨Bn, 0, none⟩ = some (.int .i64 cnt)) (c2 : w.cell? ⟨Br, 0, none⟩ = some (.pointer (some ⟨g, 0, none⟩))) (hb : Bytes l) (hng : Bn ≠ g) (hrg : Br ≠ g) (hcnt : cnt ≤ 1000000) :
    Told2 Fence.wide n Try.prog 45 #[.pointer (some ⟨Bn, 0, none⟩), .pointer (some ⟨Br, 0, none⟩)] (fun a : AddrP => #[.agg #[.int .u32 a.1, .int .i64 a.2]]) (KeepS S) (fun xs => xs = (addrsF cnt l bad).1) (fun xs V => RdAt W0 V g (addrsF cnt l bad).2.1 (addrsF cnt l bad).2.2) g cnt w := fun lp J W hW hJ hJR hY h0 => by
  have hkw : KeepS (fun b => S b ∧ b ≠ g) w W := KeepS.below hW (fun b hb => hS b hb.1)
  have Hc1 := Lib.hid ((hkw.cell (p := ⟨Bn, 0, none⟩) ⟨hSn, hng⟩).trans c1)
  have Hc2 := Lib.hid ((hkw.cell (p := ⟨Br, 0, none⟩) ⟨hSr, hrg⟩).trans c2)
  have HSw := Lib.hid (show ∀ b, S b → b < W.heap.size from fun b hb => Nat.lt_of_lt_of_le (hS b hb) hW.size)
  have HRW := Lib.hid (hR.step (hW.block _ hR.lt))
  have Hs := Lib.hid (show ∀ V, KeepS (fun b => S b ∧ b ≠ g) W V → Same W0 V from fun V hV => hs V (hkw.trans hV))
  have HY := Lib.hid hY
  have Hb := Lib.hid hb
  have HJ := Lib.hid hJ
  have HJR := Lib.hid hJR
  have HSg := Lib.hid hSg
  have HSn := Lib.hid hSn
  have HSr := Lib.hid hSr
  obtain ⟨T1, hT1⟩ : ∃ T, (addrsF cnt l bad).1 = T := ⟨_, rfl⟩
  obtain ⟨T2, hT2⟩ : ∃ T, (addrsF cnt l bad).2 = T := ⟨_, rfl⟩
  rw [hT1, hT2]
  have HT1 := Lib.hid hT1
  have HT2 := Lib.hid hT2
  clear hR hs hSg hSn hSr hS c1 c2 hb hW hkw hY hJ hJR hT1 hT2
  refine callsIn_of_wp Try.func45 rfl trivial ?_ rfl
  simp only [Try.ntmps45, List.size_toArray, List.length_cons, List.length_nil, Nat.reduceAdd, Nat.reduceSub, Array.replicate_succ, Array.replicate_zero, List.push_toArray, List.append_toArray, List.nil_append, List.cons_append]
  have d1 := Hc1.out
  gi_wp2
  clear d1
  gi_loopg [7] cnt (fun kq v7 wr => ∃ (i : Nat) (x : List Int) (b : Bool) (pre : List AddrP), v7 = .int .i64 i ∧ i + kq = cnt ∧ Hid (RdAt W0 wr g x b) ∧ Hid (Bytes x) ∧ Hid (pre ++ (addrsF kq x b).1 = T1) ∧ Hid ((addrsF kq x b).2 = T2) ∧ Hid (J pre wr) ∧ Hid (KeepS (fun b => S b ∧ b ≠ g) W wr))
  case atStart => exact ⟨0, l, bad, [], rfl, by omega, HRW, Hb, Lib.hid (by rw [List.nil_append]; exact HT1.out), HT2, Lib.hid h0, Lib.hid (KeepS.refl _ _)⟩
  case round =>
    obtain ⟨i, x, b, pre, rfl, hik, HR, HBx, HP1, HP2, HJs, HK⟩ := hrel
    cases gk with
    | zero =>
      have b0 : decide ((i : Int) < (cnt : Int)) = false := decide_eq_false (by omega)
      have hlt : ¬ i < cnt := by omega
      gi_wp2
      refine bodyPost_end (results_none rfl _ _ _) rfl ?_
      have e1 := HP1.out
      have e2 := HP2.out
      simp only [addrsF, List.append_nil] at e1 e2
      subst e1 e2
      exact ⟨⟨_, rfl⟩, pre, rfl, HR.out, HJs.out⟩
    | succ k1 =>
      have b0 : decide ((i : Int) < (cnt : Int)) = true := decide_eq_true (by omega)
      have hlt : i < cnt := by omega
      obtain ⟨A, c, hg, hc, hC⟩ := HR.out
      obtain ⟨m, hm⟩ : ∃ m, x.length = m := ⟨_, rfl⟩
      have HM := Lib.hid hm
      rw [hm] at hg hc
      have e2 := (HK.out.cell (p := ⟨Br, 0, none⟩) ⟨HSr.out, hrg⟩).trans Hc2.out
      have g0 : wr.cell? ⟨g, 0, none⟩ = some (.slice A m c) := (blk_cell hg 0).trans rfl
      have g1 : wr.cell? ⟨g, 1, none⟩ = some (.bool b) := (blk_cell hg 1).trans rfl
      have f0 := blk_frozen hg 0
      have f1 := blk_frozen hg 1
      have HG := Lib.hid hg
      have HC := Lib.hid hC
      clear hg hC
      by_cases h6 : m < 6
      · have b1 : decide ((m : Int) < 6) = true := decide_eq_true (by omega)
        have e1 := HP1.out
        have e3 := HP2.out
        simp only [addrsF] at e1 e3
        rw [if_pos (by omega)] at e1 e3
        have E1 := Lib.hid e1
        have E3 := Lib.hid e3
        clear e1 e3 hm
        refine wpIn_wide.2 ?_
        go_wp2
        refine bodyPost_ret (results_none rfl _ _ _) rfl ?_
        have e1 := E1.out
        have e3 := E3.out
        rw [List.append_nil] at e1
        subst e1 e3
        exact ⟨⟨_, rfl⟩, ⟨A, c, by rw [HM.out]; exact blk_put HG.out 1 _ rfl, by rw [HM.out]; exact hc, HC.out⟩, HJR.out _ _ _ _ HJs.out⟩
      · have b1 : decide ((m : Int) < 6) = false := decide_eq_false (by omega)
        obtain ⟨⟨h, p, e⟩, hV⟩ : ∃ q, addrV (x.take 6) = q := ⟨_, rfl⟩
        have e1 := HP1.out
        have e3 := HP2.out
        simp only [addrsF] at e1 e3
        rw [if_neg (by omega), hV] at e1 e3
        dsimp only at e1 e3
        obtain ⟨q, hq⟩ : ∃ q, (b || e != 0) = q := ⟨_, rfl⟩
        have HQ := Lib.hid hq
        rw [hq] at e1 e3
        obtain ⟨i0, hi0, _, hsz0, _⟩ := info_parts info8
        have ht := print_take_of (P := Try.prog) (Value.int .u8) 0 24 5 .i64 Try.underlying24 hi0 hsz0 A c x 6 (by omega) (by omega) (by omega)
        obtain ⟨A9, hcut9, hA9, hC9⟩ := print_drop_of (P := Try.prog) (Value.int .u8) 0 24 5 .i64 Try.underlying24 hi0 hsz0 A c x 6 (by omega) (by omega) (by omega)
        have ht6 : (x.take (6 : Int).toNat).length = 6 := by rw [List.length_take]; have : (6 : Int).toNat = 6 := rfl; omega
        have hcut6 := ht.1
        rw [ht6, hm] at hcut6
        obtain ⟨m9, hm9⟩ : ∃ m9, (x.drop (6 : Int).toNat).length = m9 := ⟨_, rfl⟩
        rw [hm, hm9] at hcut9
        have HC9 := Lib.hid (show ∀ V, Same W0 V → (Kd.int .u8).C V A9 (x.drop 6).length (x.drop 6) from fun V hV => Kd.C_of_reads (h1 := fun _ => rfl) (hA9 V (Kd.reads_of_C (HC.out V hV))))
        have HLE := Lib.hid (show (x.drop 6).length ≤ c - 6 from hC9)
        have HM9 := Lib.hid (show (x.drop 6).length = m9 from hm9)
        have KA := Lib.hid (afb_calls wr A 6 c (x.take 6) (show 6 = (x.take 6).length from ht6.symm) (by have h := ht.2.1 wr (Kd.reads_of_C (HC.out wr (Hs.out wr HK.out))); rw [ht6] at h; exact Kd.C_of_reads (h1 := fun _ => rfl) h) (by omega) (fun z hz => HBx.out z (List.mem_of_mem_take hz)) h p e hV)
        have E1 := Lib.hid e1
        have E3 := Lib.hid e3
        have hglt : g < wr.heap.size := (Array.getElem?_eq_some_iff.1 HG.out).1
        clear e1 e3 hm hm9 hV hq ht ht6 hA9 hC9 hi0 hsz0
        refine wpIn_wide.2 ?_
        go_upto_region 5 with (go_at_call 46; with_reducible refine KA.out.mono ?_; rintro e1 w1 ⟨rfl, hb1⟩; have HB1 := Lib.hid hb1; clear hb1)
        obtain ⟨U, hU⟩ : ∃ U, w1.alloc (.cells #[.int .u32 h, .int .i64 p] 45) = U := ⟨_, rfl⟩
        have hbU : Below wr.heap.size wr U := by rw [← hU]; exact HB1.out.alloc HB1.out.size _
        have HX := Lib.hid (show U.heap[w1.heap.size]? = some (.cells #[.int .u32 h, .int .i64 p] 45 (0, 0)) from by rw [← hU]; exact heap_alloc_new w1 _)
        have hgU := (hbU.block g hglt).trans HG.out
        have HGU := Lib.hid hgU
        have HBU := Lib.hid hbU
        rw [hU]
        have e2 := (hbU.cell (p := ⟨Br, 0, none⟩) (by have := HSw.out Br HSr.out; have := HK.out.1; simp; omega)).trans e2
        have g0 : U.cell? ⟨g, 0, none⟩ = some (.slice A m c) := (blk_cell hgU 0).trans rfl
        have g1 : U.cell? ⟨g, 1, none⟩ = some (.bool b) := (blk_cell hgU 1).trans rfl
        have f0 := blk_frozen hgU 0
        have f1 := blk_frozen hgU 1
        clear hU hbU hgU hcut6
        cases b with
        | true =>
          obtain rfl : q = true := by have := HQ.out; simpa using this.symm
          go_region
          go_wp2_with fail
          go_region
          go_upto_region 7 with fail
          obtain ⟨V, hV⟩ : ∃ V, ((U.setCell ⟨g, 1, none⟩ (.bool true)).setCell ⟨g, 0, none⟩ (.slice A9 m9 (c - 6))).drew.drew = V := ⟨_, rfl⟩
          have hVd : Below U.heap.size ((U.setCell ⟨g, 1, none⟩ (.bool true)).setCell ⟨g, 0, none⟩ (.slice A9 m9 (c - 6))) V := by rw [← hV]; exact ⟨rfl, rfl, rfl, Nat.le_refl _, fun _ _ => rfl⟩
          have hVg : V.heap[g]? = some (.cells #[.slice A9 m9 (c - 6), .bool true] 58 (0, 0)) := by rw [← hV]; exact blk_put (blk_put HGU.out 1 _ rfl) 0 _ rfl
          have hne : w1.heap.size ≠ g := by have := HB1.out.size; omega
          have hVx : V.heap[w1.heap.size]? = some (.cells #[.int .u32 h, .int .i64 p] 45 (0, 0)) := by
            rw [← hV]; exact (Below.heap_setCell _ _ _ _ hne).trans ((Below.heap_setCell _ _ _ _ hne).trans HX.out)
          have hJV : J pre V := by
            have h1 := abides_below HJ.out HJs.out HBU.out
            have h2 := HJR.out _ _ 0 (.slice A9 m9 (c - 6)) (HJR.out _ _ 1 (.bool true) h1)
            rw [← hV]
            exact abides_below HJ.out h2 ⟨rfl, rfl, rfl, Nat.le_refl _, fun _ _ => rfl⟩
          have hKV : KeepS (fun b => S b ∧ b ≠ g) wr V := by
            have k1 : KeepS (fun b => S b ∧ b ≠ g) wr U := KeepS.below HBU.out (fun b hb => Nat.lt_of_lt_of_le (HSw.out b hb.1) HK.out.1)
            have k2 : KeepS (fun b => S b ∧ b ≠ g) U (U.setCell ⟨g, 1, none⟩ (.bool true)) := KeepS.setCell (fun h => h.2 rfl) _
            have k3 : KeepS (fun b => S b ∧ b ≠ g) (U.setCell ⟨g, 1, none⟩ (.bool true)) ((U.setCell ⟨g, 1, none⟩ (.bool true)).setCell ⟨g, 0, none⟩ (.slice A9 m9 (c - 6))) := KeepS.setCell (fun h => h.2 rfl) _
            rw [← hV]
            exact ((k1.trans k2).trans k3).trans ⟨Nat.le_refl _, fun _ _ => rfl⟩
          rw [hV]
          have HVG := Lib.hid hVg
          have HKV := Lib.hid hKV
          have x0 : V.cell? ⟨w1.heap.size, 0, none⟩ = some (.int .u32 h) := (blk_cell hVx 0).trans rfl
          have x1 : V.cell? ⟨w1.heap.size, 1, none⟩ = some (.int .i64 p) := (blk_cell hVx 1).trans rfl
          have hlen : pre.length < cnt := by
            have h1 := addrsF_len cnt l bad
            rw [HT1.out, ← E1.out, List.length_append, List.length_cons] at h1
            omega
          obtain ⟨fn, tmps, assign, body, hy, hR2⟩ := HY.out pre (h, p) V hJV hlen
          dsimp only at hy
          clear hV hVd hVg hVx hJV hKV e2 g0 g1 f0 f1 hcut9
          refine (wpIn_wide (n := n)).1 ?_
          gi_wp2
          refine (roundIn_wide' hR2).mono ?_
          rintro e W3 ⟨rfl, hJ3, hk3⟩
          have HJ3 := Lib.hid hJ3
          have HK3 := Lib.hid hk3
          clear hJ3 hk3 hy x0 x1
          gi_wp2
          go_wp2
          gi_roundg k1
          case measure => omega
          case rel =>
            exact ⟨i + 1, x.drop 6, true, pre ++ [(h, p)], by go_num, by omega, Lib.hid ⟨A9, c - 6, by rw [HM9.out]; exact (HK3.out.2 g HSg.out).trans HVG.out, HLE.out, HC9.out⟩, Lib.hid (HBx.out.drop _), Lib.hid (by rw [List.append_assoc]; exact E1.out), E3, HJ3, Lib.hid ((HK.out.trans HKV.out).trans ⟨HK3.out.1, fun b hb => HK3.out.2 b hb.1⟩)⟩
        | false =>
          have q1 : (e != 0) = q := HQ.out
          go_region
          go_wp2_with fail
          go_region
          go_upto_region 7 with fail
          clear q1
          obtain ⟨V, hV⟩ : ∃ V, ((U.setCell ⟨g, 1, none⟩ (.bool q)).setCell ⟨g, 0, none⟩ (.slice A9 m9 (c - 6))).drew.drew = V := ⟨_, rfl⟩
          have hVd : Below U.heap.size ((U.setCell ⟨g, 1, none⟩ (.bool q)).setCell ⟨g, 0, none⟩ (.slice A9 m9 (c - 6))) V := by rw [← hV]; exact ⟨rfl, rfl, rfl, Nat.le_refl _, fun _ _ => rfl⟩
          have hVg : V.heap[g]? = some (.cells #[.slice A9 m9 (c - 6), .bool q] 58 (0, 0)) := by rw [← hV]; exact blk_put (blk_put HGU.out 1 _ rfl) 0 _ rfl
          have hne : w1.heap.size ≠ g := by have := HB1.out.size; omega
          have hVx : V.heap[w1.heap.size]? = some (.cells #[.int .u32 h, .int .i64 p] 45 (0, 0)) := by
            rw [← hV]; exact (Below.heap_setCell _ _ _ _ hne).trans ((Below.heap_setCell _ _ _ _ hne).trans HX.out)
          have hJV : J pre V := by
            have h1 := abides_below HJ.out HJs.out HBU.out
            have h2 := HJR.out _ _ 0 (.slice A9 m9 (c - 6)) (HJR.out _ _ 1 (.bool q) h1)
            rw [← hV]
            exact abides_below HJ.out h2 ⟨rfl, rfl, rfl, Nat.le_refl _, fun _ _ => rfl⟩
          have hKV : KeepS (fun b => S b ∧ b ≠ g) wr V := by
            have k1 : KeepS (fun b => S b ∧ b ≠ g) wr U := KeepS.below HBU.out (fun b hb => Nat.lt_of_lt_of_le (HSw.out b hb.1) HK.out.1)
            have k2 : KeepS (fun b => S b ∧ b ≠ g) U (U.setCell ⟨g, 1, none⟩ (.bool q)) := KeepS.setCell (fun h => h.2 rfl) _
            have k3 : KeepS (fun b => S b ∧ b ≠ g) (U.setCell ⟨g, 1, none⟩ (.bool q)) ((U.setCell ⟨g, 1, none⟩ (.bool q)).setCell ⟨g, 0, none⟩ (.slice A9 m9 (c - 6))) := KeepS.setCell (fun h => h.2 rfl) _
            rw [← hV]
            exact ((k1.trans k2).trans k3).trans ⟨Nat.le_refl _, fun _ _ => rfl⟩
          rw [hV]
          have HVG := Lib.hid hVg
          have HKV := Lib.hid hKV
          have x0 : V.cell? ⟨w1.heap.size, 0, none⟩ = some (.int .u32 h) := (blk_cell hVx 0).trans rfl
          have x1 : V.cell? ⟨w1.heap.size, 1, none⟩ = some (.int .i64 p) := (blk_cell hVx 1).trans rfl
          have hlen : pre.length < cnt := by
            have h1 := addrsF_len cnt l bad
            rw [HT1.out, ← E1.out, List.length_append, List.length_cons] at h1
            omega
          obtain ⟨fn, tmps, assign, body, hy, hR2⟩ := HY.out pre (h, p) V hJV hlen
          dsimp only at hy
          clear hV hVd hVg hVx hJV hKV e2 g0 g1 f0 f1 hcut9
          refine (wpIn_wide (n := n)).1 ?_
          gi_wp2
          refine (roundIn_wide' hR2).mono ?_
          rintro e W3 ⟨rfl, hJ3, hk3⟩
          have HJ3 := Lib.hid hJ3
          have HK3 := Lib.hid hk3
          clear hJ3 hk3 hy x0 x1
          gi_wp2
          go_wp2
          gi_roundg k1
          case measure => omega
          case rel =>
            exact ⟨i + 1, x.drop 6, q, pre ++ [(h, p)], by go_num, by omega, Lib.hid ⟨A9, c - 6, by rw [HM9.out]; exact (HK3.out.2 g HSg.out).trans HVG.out, HLE.out, HC9.out⟩, Lib.hid (HBx.out.drop _), Lib.hid (by rw [List.append_assoc]; exact E1.out), E3, HJ3, Lib.hid ((HK.out.trans HKV.out).trans ⟨HK3.out.1, fun b hb => HK3.out.2 b hb.1⟩)⟩
end Go.Proofs.Ytklcggcejaecdaa.Wi
