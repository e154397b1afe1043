/-
  FrameTwo: the walk of the law: whatever the rows: it returns true, and nothing that lay has turned. Condition: the rows are bytes.
-/
import Derived.Test.YtcngadkcnnkimaaPureFr
import Derived.Test.YtcngadkcnnkimaaOp
import Derived.Test.YtcngadkcnnkimaaWFoot
import Derived.Deep.Cut
namespace Go.Proofs.Ytcngadkcnnkimaa.Fr
open Go.RowKit Go.Shelf Go.Proofs.Ytcngadkcnnkimaa.H Go.Proofs.Ytcngadkcnnkimaa.Uv Go.Proofs.YtcngadkcnnkimaaW.PrintWords Go.Proofs.YtcngadkcnnkimaaW.PrintLast Go.Proofs.YtcngadkcnnkimaaW.PrintMore
set_option linter.unusedVariables false
set_option linter.unusedSimpArgs false
attribute [local go_sem] Oper.semAt_some

/-! ### a row of rows, as a row of slices -/
abbrev SV := Option Addr × Nat × Nat
def svEnc (x : SV) : Value := .slice x.1 x.2.1 x.2.2
def dV : Kd SV := Kd.scalar svEnc (fun _ => rfl)
def Holds1 (w : World) (s : SV) (l : List Int) : Prop := s.2.1 = l.length ∧ l.length ≤ s.2.2 ∧ (Kd.int .u8).C w s.1 l.length l
def HoldsV (w : World) (ss : List SV) (ls : List (List Int)) : Prop := ss.length = ls.length ∧ ∀ (i : Nat) (s : SV) (l : List Int), ss[i]? = some s → ls[i]? = some l → Holds1 w s l
theorem HoldsV.below {w w1 : World} {ss : List SV} {ls : List (List Int)} (h : HoldsV w ss ls) (hb : Below w.heap.size w w1) : HoldsV w1 ss ls :=
  ⟨h.1, fun i s l hs hl => ⟨(h.2 i s l hs hl).1, (h.2 i s l hs hl).2.1, Kd.C_below (h.2 i s l hs hl).2.2 hb⟩⟩
theorem HoldsV.app {w : World} {ss tt : List SV} {ls ms : List (List Int)} (h : HoldsV w ss ls) (k : HoldsV w tt ms) : HoldsV w (ss ++ tt) (ls ++ ms) := by
  refine ⟨by rw [List.length_append, List.length_append, h.1, k.1], fun i s l hs hl => ?_⟩
  by_cases hi : i < ss.length
  · rw [List.getElem?_append_left hi] at hs
    rw [List.getElem?_append_left (by rw [← h.1]; exact hi)] at hl
    exact h.2 i s l hs hl
  · rw [List.getElem?_append_right (by omega)] at hs
    rw [List.getElem?_append_right (by rw [← h.1]; omega), ← h.1] at hl
    exact k.2 _ s l hs hl
theorem C_split {w : World} {A : Option Addr} {n : Nat} {ls : List (List Int)} (h : (Kd.slice 5 (Kd.int .u8)).C w A n ls) : ∃ ss, dV.C w A n ss ∧ HoldsV w ss ls := by
  have hl := h.1
  have key : ∀ i, i < n → ∃ s : SV, (∀ l, ls[i]? = some l → Holds1 w s l) ∧ (∀ ad, A = some ad → w.cell? (ad.add (i * 1 + 0)) = some (svEnc s)) := fun i hi => by
    obtain ⟨ad, hA, hc⟩ := h.2.2 (by omega)
    obtain ⟨l, hli⟩ : ∃ l, ls[i]? = some l := ⟨_, List.getElem?_eq_getElem (by omega)⟩
    obtain ⟨c, _, ⟨A1, c1, rfl, h1, h2⟩, hcell⟩ := hc i l hli
    refine ⟨(A1, l.length, c1), fun l' hl' => ?_, fun ad' e => ?_⟩
    · rw [hli] at hl'
      obtain rfl := Option.some.inj hl'
      exact ⟨rfl, h1, h2⟩
    · rw [hA] at e
      obtain rfl := Option.some.inj e
      exact hcell 0 _ rfl
  obtain ⟨ss, hsl, hq⟩ := Op.list_of n key
  refine ⟨ss, ⟨hsl, h.2.1, fun hp => ?_⟩, by omega, fun i s l hs hl' => (hq i s hs).1 l hl'⟩
  obtain ⟨ad, hA, _⟩ := h.2.2 hp
  refine ⟨ad, hA, fun j p hj => ⟨[svEnc p], rfl, rfl, fun i u hu => ?_⟩⟩
  cases i with
  | zero => simp at hu; subst hu; exact (hq j p hj).2 ad hA
  | succ i => simp at hu
theorem C_join {w : World} {A : Option Addr} {n : Nat} {ss : List SV} {ls : List (List Int)} (h : dV.C w A n ss) (k : HoldsV w ss ls) : (Kd.slice 5 (Kd.int .u8)).C w A n ls := by
  refine ⟨by rw [← k.1]; exact h.1, h.2.1, fun hp => ?_⟩
  obtain ⟨ad, hA, hc⟩ := h.2.2 hp
  refine ⟨ad, hA, fun j l hj => ?_⟩
  have hjl := (List.getElem?_eq_some_iff.1 hj).1
  obtain ⟨s, hs⟩ : ∃ s, ss[j]? = some s := ⟨_, List.getElem?_eq_getElem (by rw [k.1]; exact hjl)⟩
  obtain ⟨c, h1, h2, h3⟩ := hc j s hs
  obtain ⟨k1, k2, k3⟩ := k.2 j s l hs hj
  obtain ⟨sa, sn, sc⟩ := s
  dsimp only at k1 k2 k3
  subst k1
  have h2' : c = [.slice sa l.length sc] := h2
  exact ⟨c, h1, ⟨sa, sc, h2', k2, k3⟩, h3⟩
theorem infoS : (Try.prog.info? 22).map (fun i => (i.zero, i.size, i.bytes)) = some (some (.slice none 0 0), 1, 24) := by kernel_rfl
theorem info8 : (Try.prog.info? 5).map (fun i => (i.zero, i.size, i.bytes)) = some (some (.int .u8 0), 1, 1) := by kernel_rfl
set_option maxRecDepth 100000 in
set_option maxHeartbeats 400000 in
theorem two_in (A0 : Option Addr) (c0 : Nat) (l0 : List (List Int)) (A1 : Option Addr) (c1 : Nat) (l1 : List (List Int)) (w : World) (hr0 : (Kd.slice 5 (Kd.int .u8)).C w A0 l0.length l0) (hc0 : l0.length ≤ c0) (hr1 : (Kd.slice 5 (Kd.int .u8)).C w A1 l1.length l1) (hc1 : l1.length ≤ c1)
    (hb0 : ∀ r ∈ l0, Bytes r) (hb1 : ∀ r ∈ l1, Bytes r) (h30 : l0.length ≤ 30) (h31 : l1.length ≤ 30) :
    Calls Try.prog 4 #[.slice A0 l0.length c0, .slice A1 l1.length c1] w fun e w' => e = .returned (.bool true) ∧ Below w.heap.size w w' := by
  obtain ⟨ka, hka⟩ := awake_yes.rounds
  obtain ⟨k0, hk0⟩ := (join_yes l0 (by omega)).rounds
  obtain ⟨k1, hk1⟩ := (join_yes l1 (by omega)).rounds
  obtain ⟨k2, hk2⟩ := (join_yes (l0 ++ l1) (by simp; omega)).rounds
  obtain ⟨⟨x, e⟩, hx⟩ : ∃ z, joinA l0 = z := ⟨_, rfl⟩
  obtain ⟨⟨y, f⟩, hy⟩ : ∃ z, joinA l1 = z := ⟨_, rfl⟩
  obtain ⟨⟨z, g⟩, hz⟩ : ∃ z, joinA (l0 ++ l1) = z := ⟨_, rfl⟩
  rw [hx] at hk0
  rw [hy] at hk1
  rw [hz] at hk2
  have HX := Lib.hid hx
  have HY := Lib.hid hy
  have HZ := Lib.hid hz
  have Ka := Lib.hid hka
  have K0 := Lib.hid hk0
  have K1 := Lib.hid hk1
  have K2 := Lib.hid hk2
  have HR0 := Lib.hid hr0
  have HR1 := Lib.hid hr1
  have HB0 := Lib.hid hb0
  have HB1 := Lib.hid hb1
  clear hka hk0 hk1 hk2 hx hy hz hr0 hr1 hb0 hb1
  have g0 : decide (30 < (l0.length : Int)) = false := decide_eq_false (by omega)
  have g1 : decide (30 < (l1.length : Int)) = false := decide_eq_false (by omega)
  go_enter Try.func4, Try.ntmps4
  go_upto_region 6 with (first
    | (go_at_call 8; refine (embrasurelaw02_awake.calls ka true _ Ka.out).mono ?_; rintro e w1 ⟨rfl, hb1⟩)
    | (go_at_call 12; refine (frame_Join.calls k0 A0 c0 l0 x e _ (Kd.C_below HR0.out hb1) hc0 K0.out).mono ?_; rintro e w2 ⟨vx, rfl, hRx, hb2⟩))
  have hs1 := hb1.size
  have HB2 := Lib.hid (hb1.trans (hb2.mono hs1))
  obtain ⟨Ax, cx, hvx, hcx, hCx⟩ := Kd.R_reads hRx
  subst hvx
  have HCx := Lib.hid hCx
  clear hRx hCx hb1 hb2
  go_upto_region 7 with (go_at_call 12; refine (frame_Join.calls k1 A1 c1 l1 y f _ (Kd.C_below HR1.out HB2.out) hc1 K1.out).mono ?_; rintro e w3 ⟨vy, rfl, hRy, hb3⟩)
  have hs2 := HB2.out.size
  have HB3 := Lib.hid (HB2.out.trans (hb3.mono hs2))
  have HB23 := Lib.hid hb3
  obtain ⟨Ay, cy, hvy, hcy, hCy⟩ := Kd.R_reads hRy
  subst hvy
  have HCy := Lib.hid hCy
  clear hRy hCy hb3
  obtain ⟨s0, hS0, hH0⟩ := C_split HR0.out
  obtain ⟨s1, hS1, hH1⟩ := C_split HR1.out
  have hsl0 : s0.length = l0.length := hH0.1
  have hsl1 : s1.length = l1.length := hH1.1
  have HS0 := Lib.hid hS0
  have HS1 := Lib.hid hS1
  have HH := Lib.hid (hH0.app hH1)
  obtain ⟨nn, hnn⟩ : ∃ nn, (l0 ++ l1).length = nn := ⟨_, rfl⟩
  have KJ := Lib.hid (show ∀ (B : Option Addr) (c : Nat) (W : World), dV.C W B nn (s0 ++ s1) → nn ≤ c → Below w3.heap.size w3 W → Calls Try.prog 12 #[.slice B nn c] W fun e w' => ∃ v, e = .returned (.tuple #[v, .int .i64 g]) ∧ Kd.R (Kd.int .u8) 5 w' W.heap.size (fun _ => True) v z ∧ Below W.heap.size W w' from fun B c W hC hc hW => by
    subst hnn
    exact frame_Join.calls k2 B c (l0 ++ l1) z g W (C_join hC (HH.out.below (HB3.out.trans (hW.mono HB3.out.size)))) hc K2.out)
  have HNN := Lib.hid (show (s0 ++ s1).length = nn by rw [← hnn, List.length_append, List.length_append]; omega)
  clear hS0 hS1 hH0 hH1
  go_upto_region 8 with (first
    | ((with_reducible refine gate_dst (N := 32) rfl ?_); (try (refine gate_guard (by rfl) ?_; dsimp only)); refine Kd.R_lit dV _ 22 ?hg (N := 32) ?hd (xs := ([] : List SV)) (inner := []) (ok := fun _ => True) (okp := fun _ => True) ?hr ?hp (fun _ hk => hk) trivial (Below.refl _ _) (Nat.le_refl _) (by simp) ?_; (case hd => rfl); (case hg => rfl); (case hr => first | (go_simp; done) | (go_simp; rfl)); (case hp => exact (Reps.none _ _)); intro v32 w32 ho32 hb32 hg32 hnew32; clear hg32 hnew32)
    | ((with_reducible refine gate_builtin (b := .append) (xs := #[.tmp 32, .tmp 33]) rfl ?_); at_builtin; refine Kd.R_append_row svEnc ((none, 0, 0) : SV) (h1 := fun _ => rfl) (w0 := w3) w3.heap.size rfl (.tmp 32) (.tmp 33) 30 22 (.slice none 0 0) 24 rfl Try.underlying30 infoS rfl (by omega) v32 [] s0 A0 l0.length c0 (fun _ => True) rfl rfl (fun _ _ => trivial) ho32 (Kd.C_below HS0.out (HB3.out.trans (hb32.mono HB3.out.size))) hb32 hb32.size (by simp; omega) ?_; intro v34 w34 ho34 hb34 hg34 hat34; rw [List.nil_append] at ho34; clear hg34 hat34)
    | ((with_reducible refine gate_builtin (b := .append) (xs := #[.tmp 34, .tmp 35]) rfl ?_); at_builtin; refine Kd.R_append_row svEnc ((none, 0, 0) : SV) (h1 := fun _ => rfl) (w0 := w3) w3.heap.size rfl (.tmp 34) (.tmp 35) 30 22 (.slice none 0 0) 24 rfl Try.underlying30 infoS rfl (by omega) v34 s0 s1 A1 l1.length c1 (fun _ => True) rfl rfl (fun _ _ => trivial) ho34 (Kd.C_below HS1.out (HB3.out.trans (hb34.mono HB3.out.size))) hb34 hb34.size (by omega) ?_; intro v36 w36 ho36 hb36 hg36 hat36; obtain ⟨A36, c36, hv36, hc36, hC36⟩ := Kd.R_reads ho36; rw [HNN.out] at hv36 hc36 hC36; subst hv36; have HK := Lib.hid (KJ.out A36 c36 _ hC36 hc36 hb36); clear hg36 hat36 ho36 hC36)
    | (go_at_call 12; refine HK.out.mono ?_; rintro e w4 ⟨vz, rfl, hRz, hb4⟩))
  obtain ⟨Az, cz, hvz, hcz, hCz⟩ := Kd.R_reads hRz
  subst hvz
  have hs3 := HB3.out.size
  have hs36 := hb36.size
  have HB4 := Lib.hid (HB3.out.trans ((hb36.mono hs3).trans (hb4.mono (by omega))))
  have HB34 := Lib.hid (show Below w3.heap.size w3 w4 from hb36.trans (hb4.mono hs36))
  have HCz := Lib.hid hCz
  clear hCz hRz hb4 hb36 hb34 hb32 ho32 ho34
  have hz2 := joinA_app l0 l1
  rw [HZ.out, HX.out, HY.out] at hz2
  dsimp only at hz2
  by_cases he : e = 0
  · subst he
    have e1 : ((0 : Int) == 0) = true := rfl
    by_cases hf : f = 0
    · subst hf
      rw [if_pos ⟨rfl, rfl⟩] at hz2
      injection hz2 with hz3 hg3
      subst hg3
      have hj0 := joinA_ok (rows := l0) (by rw [HX.out])
      have hj1 := joinA_ok (rows := l1) (by rw [HY.out])
      rw [HX.out] at hj0
      rw [HY.out] at hj1
      have hx0 : x = joinF l0 := (Prod.mk.inj hj0.2).1
      have hy0 : y = joinF l1 := (Prod.mk.inj hj1.2).1
      have hlx := joinF_len l0 1200 hj0.1
      have hly := joinF_len l1 1200 hj1.1
      rw [← hx0] at hlx
      rw [← hy0] at hly
      have hlx2 : l0.length * (9 + 1200) ≤ 30 * 1209 := Nat.mul_le_mul_right 1209 h30
      have hly2 : l1.length * (9 + 1200) ≤ 30 * 1209 := Nat.mul_le_mul_right 1209 h31
      have hbx : Bytes x := by rw [hx0]; exact joinF_bytes l0 HB0.out
      have hby : Bytes y := by rw [hy0]; exact joinF_bytes l1 HB1.out
      have hzl : z.length = x.length + y.length := by rw [hz3, List.length_append]
      obtain ⟨ks, hks⟩ := (same_yes z z (by omega)).rounds
      rw [decide_eq_true rfl] at hks
      obtain ⟨kc, hkc⟩ := (count_yes z (by rw [hz3]; exact hbx.app hby) (by omega)).rounds
      have hcnt : (((rowsF z).1.length : Nat) : Int) = (l0.length : Int) + (l1.length : Int) := by
        have h1 : rowsF z = (l0 ++ l1, 0) := by
          have h2 := rowsF_join l0 (joinF l1 ++ []) (fun r hr => ⟨hj0.1 r hr, HB0.out r hr⟩) (by rw [List.append_nil, ← hy0]; exact hby)
          rw [rowsF_join l1 [] (fun r hr => ⟨hj1.1 r hr, HB1.out r hr⟩) (fun x hx => by simp at hx), List.append_nil, ← hx0, ← hy0, ← hz3, rowsF_nil] at h2
          simpa using h2
        rw [h1, List.length_append]; omega
      rw [hcnt] at hkc
      have KS := Lib.hid hks
      have KC := Lib.hid hkc
      have HXY := Lib.hid (show x ++ y = z from hz3.symm)
      have HZL := Lib.hid hzl
      clear hks hkc hcnt hj0 hj1 hx0 hy0 hbx hby hz3 hzl
      go_wp2_with (first
        | ((with_reducible refine gate_dst (N := 57) rfl ?_); (try (refine gate_guard (by rfl) ?_; dsimp only)); refine Kd.R_lit (Kd.int .u8) _ 5 ?hg2 (N := 57) ?hd2 (xs := ([] : List Int)) (inner := []) (ok := fun _ => True) (okp := fun _ => True) ?hr2 ?hp2 (fun _ hk => hk) trivial (Below.refl _ _) (Nat.le_refl _) (by simp) ?_; (case hd2 => rfl); (case hg2 => rfl); (case hr2 => first | (go_simp; done) | (go_simp; rfl)); (case hp2 => exact (Reps.none _ _)); intro v57 w57 ho57 hb57 hg57 hnew57; clear hg57 hnew57)
        | ((with_reducible refine gate_builtin (b := .append) (xs := #[.tmp 57, .tmp 58]) rfl ?_); (try (refine gate_guard (by rfl) ?_; dsimp only)); at_builtin; refine Kd.R_append_row (Value.int .u8) (0 : Int) (w0 := w4) w4.heap.size rfl (.tmp 57) (.tmp 58) 22 5 (.int .u8 0) 1 rfl Try.underlying22 info8 rfl (by omega) v57 [] x Ax x.length cx (fun _ => True) rfl rfl (fun _ _ => trivial) ho57 (Kd.C_below HCx.out (HB23.out.trans ((HB34.out.trans (hb57.mono HB34.out.size)).mono HB23.out.size))) hb57 hb57.size (by simp; omega) ?_; intro v59 w59 ho59 hb59 hg59 hat59; rw [List.nil_append] at ho59; clear hg59 hat59)
        | ((with_reducible refine gate_builtin (b := .append) (xs := #[.tmp 59, .tmp 60]) rfl ?_); (try (refine gate_guard (by rfl) ?_; dsimp only)); at_builtin; refine Kd.R_append_row (Value.int .u8) (0 : Int) (w0 := w4) w4.heap.size rfl (.tmp 59) (.tmp 60) 22 5 (.int .u8 0) 1 rfl Try.underlying22 info8 rfl (by omega) v59 x y Ay y.length cy (fun _ => True) rfl rfl (fun _ _ => trivial) ho59 (Kd.C_below HCy.out (HB34.out.trans (hb59.mono HB34.out.size))) hb59 hb59.size (by omega) ?_; intro v61 w61 ho61 hb61 hg61 hat61; rw [HXY.out] at ho61; obtain ⟨A61, c61, hv61, hc61, hC61⟩ := Kd.R_reads ho61; subst hv61; have HC61 := Lib.hid hC61; clear hg61 hat61 ho61 hC61)
        | (go_at_call 11; refine (embrasureref01_Same.calls ks Az cz z A61 c61 z true _ (Kd.C_below HCz.out hb61) hcz HC61.out hc61 KS.out).mono ?_; rintro e5 w5 ⟨rfl, hd5⟩; have hb5 := hb61.trans (hd5.below.mono hb61.size))
        | (go_at_call 13; refine (frame_Count.calls kc Az cz z ((l0.length : Int) + (l1.length : Int)) _ (Kd.C_below HCz.out hb5) hcz KC.out).mono ?_; rintro e6 w6 ⟨rfl, hb6⟩))
      go_ret
      exact ⟨rfl, HB4.out.trans ((hb5.mono HB4.out.size).trans (hb6.mono (Nat.le_trans HB4.out.size hb5.size)))⟩
    · have q1 : (f == 0) = false := by simpa using hf
      rw [if_neg (fun h => hf h.2)] at hz2
      injection hz2 with hz3 hg3
      subst hz3
      subst hg3
      clear hf
      go_wp2
      go_ret
      exact ⟨rfl, HB4.out⟩
  · have q1 : (e == 0) = false := by simpa using he
    rw [if_neg (fun h => he h.1)] at hz2
    injection hz2 with hz3 hg3
    subst hz3
    subst hg3
    clear he
    go_wp2
    go_ret
    exact ⟨rfl, HB4.out⟩

theorem wf_bd {k : IntKind} {n lo hi : Int} (h : (Lit.int k n).wf = true) (hl : k.min = lo) (hh : k.max = hi) : lo ≤ n ∧ n ≤ hi := by
  simp only [Lit.wf, Bool.and_eq_true, decide_eq_true_eq] at h
  rw [hl, hh] at h
  exact h
theorem opens_rows : Op.Opens Try.prog 30 (Kd.slice 22 (Kd.slice 5 (Kd.int .u8))) (fun l => ∀ r ∈ l, Bytes r) :=
  Op.opens_mono (Op.opens_slice Try.underlying30 (by kernel_rfl) (Op.opens_slice Try.underlying22 (by kernel_rfl) (Op.opens_int Try.underlying5)))
    (fun y h r hr x hx => wf_bd ((h.2 r hr).2 x hx) (by decide) (by decide))
theorem two_row (A0 : Option Addr) (c0 : Nat) (l0 : List (List Int)) (A1 : Option Addr) (c1 : Nat) (l1 : List (List Int)) (w : World) (hr0 : (Kd.slice 5 (Kd.int .u8)).C w A0 l0.length l0) (hc0 : l0.length ≤ c0) (hy0 : l0.length * 24 ≤ 140737488351232) (hb0 : ∀ r ∈ l0, Bytes r)
    (hr1 : (Kd.slice 5 (Kd.int .u8)).C w A1 l1.length l1) (hc1 : l1.length ≤ c1) (hy1 : l1.length * 24 ≤ 140737488351232) (hb1 : ∀ r ∈ l1, Bytes r) :
    Calls Try.prog 4 #[.slice A0 l0.length c0, .slice A1 l1.length c1] w fun e w' => e = .returned (.bool true) ∧ Below w.heap.size w w' := by
  by_cases h0 : l0.length ≤ 30
  · by_cases h1 : l1.length ≤ 30
    · exact two_in A0 c0 l0 A1 c1 l1 w hr0 hc0 hr1 hc1 hb0 hb1 h0 h1
    · obtain ⟨ka, hka⟩ := awake_yes.rounds
      have Ka := Lib.hid hka
      have g0 : decide (30 < (l0.length : Int)) = false := decide_eq_false (by omega)
      have g1 : decide (30 < (l1.length : Int)) = true := decide_eq_true (by omega)
      clear hr0 hr1 hb0 hb1 hka
      go_enter Try.func4, Try.ntmps4
      go_wp2_with (go_at_call 8; refine (embrasurelaw02_awake.calls ka true _ Ka.out).mono ?_; rintro e w1 ⟨rfl, hb1⟩)
      go_ret
      exact ⟨rfl, hb1⟩
  · obtain ⟨ka, hka⟩ := awake_yes.rounds
    have Ka := Lib.hid hka
    have g0 : decide (30 < (l0.length : Int)) = true := decide_eq_true (by omega)
    clear hr0 hr1 hb0 hb1 hka
    go_enter Try.func4, Try.ntmps4
    go_wp2_with (go_at_call 8; refine (embrasurelaw02_awake.calls ka true _ Ka.out).mono ?_; rintro e w1 ⟨rfl, hb1⟩)
    go_ret
    exact ⟨rfl, hb1⟩
end Go.Proofs.Ytcngadkcnnkimaa.Fr
