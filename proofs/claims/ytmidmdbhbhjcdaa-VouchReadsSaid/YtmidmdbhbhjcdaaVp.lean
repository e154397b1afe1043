/-
  A voucher in plain Lean: its numbers, its text, its bytes, and which bytes are one; whether it may be; bytes.Equal, bytes.HasPrefix and bytes.CutPrefix by the mark. Conditions: bytes are bytes.
-/
import Derived.Test.YtmidmdbhbhjcdaaVt
import Derived.Test.YtmidmdbhbhjcdaaPureEach
import Derived.Lib.Bytes
namespace Go.Proofs.Ytmidmdbhbhjcdaa.By
open Go.RowKit Go.Proofs.Ytmidmdbhbhjcdaa.Sp Go.Proofs.Ytmidmdbhbhjcdaa.H Go.Proofs.Ytmidmdbhbhjcdaa.Uv Go.Proofs.Ytmidmdbhbhjcdaa.Fr Go.Proofs.YtmidmdbhbhjcdaaW.PrintWords Go.Proofs.YtmidmdbhbhjcdaaW.PrintLast Go.Proofs.YtmidmdbhbhjcdaaW.PrintMore
set_option linter.unusedVariables false
set_option linter.unusedSimpArgs false
/-! ### plain -/
def mayF (r p u : Int) : Bool := decide (1 ≤ r) && (decide (r ≤ 2147483647) && (decide (1 ≤ p) && (decide (p ≤ 2147483647) && (!decide (r = p) && (decide (1 ≤ u) && decide (u ≤ 1099511627776))))))
theorem mayF_iff (r p u : Int) : mayF r p u = true ↔ (1 ≤ r ∧ r ≤ 2147483647 ∧ 1 ≤ p ∧ p ≤ 2147483647 ∧ r ≠ p ∧ 1 ≤ u ∧ u ≤ 1099511627776) := by simp [mayF]
theorem ite_yes {c : Prop} [Decidable c] (b : Bool) : (if c then some b else some false) = some (decide c && b) := by by_cases h : c <;> simp [h]
theorem ite_no {c : Prop} [Decidable c] (b : Bool) : (if c then some false else some b) = some (!decide c && b) := by by_cases h : c <;> simp [h]
theorem rmay_f (r p u : Int) : embrasureref22_May.f r p u = some (mayF r p u) := by
  unfold embrasureref22_May.f mayF
  simp only [ge_iff_le, ite_yes, ite_no]
theorem may_f (r p u : Int) : vouch_may.f r p u = some (mayF r p u) := by
  unfold vouch_may.f vouch_mayPeer.f mayF
  simp only [ge_iff_le, ite_yes, ite_no, Option.bind_some, Bool.decide_eq_true, Bool.and_assoc]
theorem textL_flat (nums : List Int) : textL nums = markL ++ flat nums := by unfold textL flat; rw [List.flatMap_def]
theorem textL_take (nums : List Int) : (textL nums).take 3 = markL := List.take_left (l₁ := markL)
theorem textL_drop (nums : List Int) : (textL nums).drop 3 = flat nums := by rw [textL_flat]; exact List.drop_left (l₁ := markL)
theorem textL_each {nums : List Int} (h : ∀ v ∈ nums, 0 ≤ v ∧ v ≤ 9223372036854775807) : (eachL ((textL nums).drop 3)).map Prod.snd = nums := by rw [textL_drop, eachL_flat nums h, posL_snd]
def vouchI (r p u tag : Int) : List Int := frameI (textL [r, p, u]) ++ putI tag
def Good (b : List Int) (r p u tag : Int) : Prop := mayF r p u = true ∧ 0 ≤ tag ∧ tag ≤ 9223372036854775807 ∧ b = vouchI r p u tag
theorem may_nums {r p u : Int} (h : mayF r p u = true) : ∀ v ∈ [r, p, u], 0 ≤ v ∧ v ≤ 9223372036854775807 := by
  have := (mayF_iff r p u).1 h
  intro v hv
  simp at hv
  rcases hv with rfl | rfl | rfl <;> omega
theorem text3_len (r p u : Int) : (textL [r, p, u]).length ≤ 30 := textL_len [r, p, u]
theorem good_F {b : List Int} {r p u tag : Int} (h : Good b r p u tag) : getF b = (textL [r, p, u], ((frameI (textL [r, p, u])).length : Int), 0) ∧ b.drop (frameI (textL [r, p, u])).length = putI tag := by
  have hl := text3_len r p u
  have h4 := h.2.2.2
  rw [h4]
  clear h4 h
  refine ⟨?_, List.drop_left⟩
  unfold vouchI frameI
  rw [List.append_assoc, getF_put _ _ (by omega), List.length_append]
  rfl
theorem good_each {b : List Int} {r p u tag : Int} (h : Good b r p u tag) : (eachL ((textL [r, p, u]).drop 3)).map Prod.snd = [r, p, u] := textL_each (may_nums h.1)
theorem good_tag {b : List Int} {r p u tag : Int} (h : Good b r p u tag) : getI (b.drop (frameI (textL [r, p, u])).length) = (tag, ((putI tag).length : Int), 0) := by
  rw [(good_F h).2]
  have := getI_put tag [] h.2.1 h.2.2.1
  rwa [List.append_nil] at this
theorem good_len {b : List Int} {r p u tag : Int} (h : Good b r p u tag) : b.length = (frameI (textL [r, p, u])).length + (putI tag).length := by rw [h.2.2.2]; exact List.length_append
theorem good_inj {b : List Int} {r p u tag r' p' u' tag' : Int} (h : Good b r p u tag) (k : Good b r' p' u' tag') : r = r' ∧ p = p' ∧ u = u' ∧ tag = tag' := by
  have e := (good_F h).1.symm.trans (good_F k).1
  have e1 : textL [r, p, u] = textL [r', p', u'] := congrArg Prod.fst e
  have e2 := good_each h
  rw [e1, good_each k] at e2
  have e3 := good_tag h
  rw [e1, good_tag k] at e3
  simp at e2 e3
  exact ⟨e2.1.symm, e2.2.1.symm, e2.2.2.symm, e3.1.symm⟩
open Classical in
noncomputable def readV (b : List Int) : Int × Int × Int × Int × Int := if h : ∃ x : Int × Int × Int × Int, Good b x.1 x.2.1 x.2.2.1 x.2.2.2 then (h.choose.1, h.choose.2.1, h.choose.2.2.1, h.choose.2.2.2, 0) else (0, 0, 0, 0, 3)
theorem readV_good {b : List Int} {r p u tag : Int} (h : Good b r p u tag) : readV b = (r, p, u, tag, 0) := by
  have hx : ∃ x : Int × Int × Int × Int, Good b x.1 x.2.1 x.2.2.1 x.2.2.2 := ⟨(r, p, u, tag), h⟩
  unfold readV
  rw [dif_pos hx]
  obtain ⟨e1, e2, e3, e4⟩ := good_inj hx.choose_spec h
  rw [e1, e2, e3, e4]
theorem readV_bad {b : List Int} (h : ∀ r p u tag, ¬ Good b r p u tag) : readV b = (0, 0, 0, 0, 3) := by
  unfold readV
  rw [dif_neg]
  rintro ⟨x, hx⟩
  exact h _ _ _ _ hx
theorem readV_cases (b : List Int) : (∃ r p u tag, Good b r p u tag ∧ readV b = (r, p, u, tag, 0)) ∨ ((∀ r p u tag, ¬ Good b r p u tag) ∧ readV b = (0, 0, 0, 0, 3)) := by
  by_cases h : ∃ r p u tag, Good b r p u tag
  · obtain ⟨r, p, u, tag, h⟩ := h
    exact .inl ⟨r, p, u, tag, h, readV_good h⟩
  · have h' : ∀ r p u tag, ¬ Good b r p u tag := fun r p u tag hg => h ⟨r, p, u, tag, hg⟩
    exact .inr ⟨h', readV_bad h'⟩
theorem getF_ok {b t : List Int} {k : Int} (hb : Bytes b) (h : getF b = (t, k, 0)) : 0 ≤ k ∧ b = frameI t ++ b.drop k.toNat ∧ k.toNat ≤ b.length ∧ t.length ≤ 1200 ∧ Bytes t := by
  have hin := getF_in hb (by rw [h])
  rw [h] at hin
  dsimp only at hin
  refine ⟨by omega, ?_, by omega, hin.2.2⟩
  by_cases h0 : (getI b).2.2 = 0
  · obtain ⟨h1, h2, h3, h4, h5⟩ := getI_in hb h0
    by_cases hv : 1200 < (getI b).1
    · rw [getF_long h0 hv] at h; cases h
    · by_cases hs : (b.length : Int) - (getI b).2.1 < (getI b).1
      · rw [getF_short h0 hv hs] at h; cases h
      · rw [getF_good h0 hv hs] at h
        obtain ⟨rfl, rfl, _⟩ := Prod.mk.inj h |>.imp id Prod.mk.inj
        obtain ⟨_, _, r, hr, hk⟩ := getI_ok b (getI b).1 (getI b).2.1 hb (by rw [← h0])
        have hlen : ((b.drop (getI b).2.1.toNat).take (getI b).1.toNat).length = (getI b).1.toNat := by rw [List.length_take, List.length_drop]; omega
        have e1 : (((b.drop (getI b).2.1.toNat).take (getI b).1.toNat).length : Int) = (getI b).1 := by rw [hlen]; omega
        unfold frameI
        rw [e1]
        obtain ⟨m, hm⟩ : ∃ m, (putI (getI b).1).length = m := ⟨_, rfl⟩
        have e2 : (getI b).2.1.toNat = m := by omega
        have e3 : ((getI b).2.1 + (getI b).1).toNat = m + (getI b).1.toNat := by omega
        have e4 : b.take m = putI (getI b).1 := by
          conv => lhs; rw [hr]
          rw [← hm, List.take_left]
        rw [e2, e3, ← List.drop_drop, List.append_assoc, List.take_append_drop, ← e4, List.take_append_drop]
  · rw [getF_bad h0] at h
    exact absurd (Prod.mk.inj (Prod.mk.inj h).2).2 h0
theorem good_of {b t : List Int} {k r p u tag n : Int} (hb : Bytes b) (h : getF b = (t, k, 0)) (hg : getI (b.drop k.toNat) = (tag, n, 0)) (hn : k + n = b.length) (ht : textL [r, p, u] = t) (hm : mayF r p u = true) : Good b r p u tag := by
  obtain ⟨h0, h1, h2, h3, h4⟩ := getF_ok hb h
  obtain ⟨g0, g1, rr, g2, g3⟩ := getI_ok _ tag n (hb.drop _) hg
  have hl : (b.drop k.toNat).length = (putI tag).length + rr.length := by rw [g2, List.length_append]
  rw [List.length_drop] at hl
  have : rr = [] := List.length_eq_zero_iff.1 (by omega)
  rw [this, List.append_nil] at g2
  exact ⟨hm, g0, g1, by rw [h1, g2, vouchI, ht]⟩
/-! ### contracts -/
theorem may_calls (w : World) (r p u : Int) : Calls Try.prog 27 #[.int .i64 r, .int .i64 p, .int .i64 u] w fun e w' => e = .returned (.bool (mayF r p u)) ∧ Drawn0 w w' := vouch_may.calls r p u _ w (may_f r p u)
theorem rmay_calls (w : World) (r p u : Int) : Calls Try.prog 9 #[.int .i64 r, .int .i64 p, .int .i64 u] w fun e w' => e = .returned (.bool (mayF r p u)) ∧ Drawn0 w w' := embrasureref22_May.calls r p u _ w (rmay_f r p u)
theorem str_list {a b : List Int} (ha : Bytes a) (hb : Bytes b) : ((strOfNums a).toList == (strOfNums b).toList) = decide (a = b) := by
  have e : (strOfNums a).toList = (strOfNums b).toList ↔ a = b := by
    rw [Go.Lib.strOfNums_toList, Go.Lib.strOfNums_toList]
    refine ⟨fun h => ?_, fun h => by rw [h]⟩
    have h2 : a.map (fun n => UInt8.ofNat n.toNat) = b.map (fun n => UInt8.ofNat n.toNat) := h
    have hinj : ∀ (xs ys : List Int), Bytes xs → Bytes ys → xs.map (fun n => UInt8.ofNat n.toNat) = ys.map (fun n => UInt8.ofNat n.toNat) → xs = ys := by
      intro xs
      induction xs with
      | nil => intro ys _ _ h; cases ys with
        | nil => rfl
        | cons y ys => simp at h
      | cons x xs ih => intro ys hx hy h; cases ys with
        | nil => simp at h
        | cons y ys =>
          simp only [List.map_cons, List.cons.injEq] at h
          have h1 := hx x (by simp)
          have h2 := hy y (by simp)
          have h3 := congrArg UInt8.toNat h.1
          simp only [UInt8.toNat_ofNat'] at h3
          rw [ih ys (fun z hz => hx z (by simp [hz])) (fun z hz => hy z (by simp [hz])) h.2]
          congr 1
          omega
    exact hinj a b ha hb h2
  by_cases h : a = b
  · rw [decide_eq_true h, h]; simp
  · rw [decide_eq_false h]
    exact beq_eq_false_iff_ne.2 (fun hh => h (e.1 hh))
theorem equal_n (w : World) (A0 : Option Addr) (n0 c0 : Nat) (l0 : List Int) (A1 : Option Addr) (n1 c1 : Nat) (l1 : List Int) (h0 : n0 = l0.length) (h1 : n1 = l1.length) (b0 : Bytes l0) (b1 : Bytes l1) (hr0 : Kd.C (Kd.int .u8) w A0 n0 l0) (hc0 : n0 ≤ c0) (hr1 : Kd.C (Kd.int .u8) w A1 n1 l1) (hc1 : n1 ≤ c1) :
    Calls Try.prog 28 #[.slice A0 n0 c0, .slice A1 n1 c1] w fun e w' => e = .returned (.bool (decide (l0 = l1))) ∧ Drawn0 w w' := by
  subst h0 h1
  exact bytes_Equal.calls A0 c0 l0 A1 c1 l1 _ w hr0 hc0 hr1 hc1 (by unfold bytes_Equal.f; rw [str_list b0 b1])
theorem markB : Bytes markL := by unfold Bytes markL; decide
set_option maxRecDepth 100000 in
set_option maxHeartbeats 2000000 in
theorem prefix_calls (w : World) (A : Option Addr) (n c : Nat) (l : List Int) (hn : n = l.length) (hr : Kd.C (Kd.int .u8) w A n l) (hc : n ≤ c) (hb : Bytes l) (B : Option Addr) (c1 : Nat) (h1 : Kd.C (Kd.int .u8) w B 3 markL) (hc1 : 3 ≤ c1) :
    Calls Try.prog 40 #[.slice A n c, .slice B 3 c1] w fun e w' => e = .returned (.bool (decide (l.take 3 = markL))) ∧ Drawn0 w w' := by
  by_cases hlt : 3 ≤ n
  · have b0 : decide ((3 : Int) ≤ (n : Int)) = true := decide_eq_true (by omega)
    obtain ⟨i0, hi0, _, hsz0, _⟩ := info_parts info8
    have hp := print_take_of (P := Try.prog) (Value.int .u8) 0 22 5 .i64 Try.underlying22 hi0 hsz0 A c l 3 (by omega) (by omega) (by omega)
    have h3 : (l.take 3).length = 3 := by rw [List.length_take]; omega
    rw [show (3 : Int).toNat = 3 from rfl, h3, ← hn] at hp
    have hcut := hp.1
    have hq := equal_n w A 3 c (l.take 3) B 3 c1 markL h3.symm rfl (fun x hx => hb x (List.mem_of_mem_take hx)) markB (Kd.C_of_reads (h1 := fun _ => rfl) (hp.2.1 w (Kd.reads_of_C hr))) (by omega) h1 hc1
    have HQ := Lib.hid hq
    clear hp hq hr h1 h3 hi0 hsz0
    go_enter Try.func40, Try.ntmps40
    go_wp2_with (go_at_call 28; with_reducible refine HQ.out.mono ?_; rintro e w1 ⟨rfl, hd1⟩; have HD := Lib.hid hd1; clear hd1)
    go_ret
    exact ⟨rfl, HD.out⟩
  · have b0 : decide ((3 : Int) ≤ (n : Int)) = false := decide_eq_false (by omega)
    have e : decide (l.take 3 = markL) = false := decide_eq_false (fun h => by
      have := congrArg List.length h
      rw [List.length_take] at this
      have h3 : markL.length = 3 := rfl
      omega)
    rw [e]
    go_enter Try.func40, Try.ntmps40
    go_wp2
    go_ret
    exact ⟨rfl, by repeat (first | exact Drawn0.refl _ | apply Drawn0.step)⟩
set_option maxRecDepth 100000 in
set_option maxHeartbeats 2000000 in
theorem cut_no (w : World) (A : Option Addr) (n c : Nat) (l : List Int) (hn : n = l.length) (hr : Kd.C (Kd.int .u8) w A n l) (hc : n ≤ c) (hb : Bytes l) (B : Option Addr) (c1 : Nat) (h1 : Kd.C (Kd.int .u8) w B 3 markL) (hc1 : 3 ≤ c1) (hno : ¬ l.take 3 = markL) :
    Calls Try.prog 25 #[.slice A n c, .slice B 3 c1] w fun e w' => e = .returned (.tuple #[.slice A n c, .bool false]) ∧ Drawn0 w w' := by
  have hq := prefix_calls w A n c l hn hr hc hb B c1 h1 hc1
  rw [decide_eq_false hno] at hq
  have HQ := Lib.hid hq
  clear hn hq hr h1
  go_enter Try.func25, Try.ntmps25
  go_wp2_with (go_at_call 40; with_reducible refine HQ.out.mono ?_; rintro e w1 ⟨rfl, hd1⟩; have HD := Lib.hid hd1; clear hd1)
  go_ret2
  exact ⟨rfl, HD.out⟩
set_option maxRecDepth 100000 in
set_option maxHeartbeats 2000000 in
theorem cut_yes (w : World) (A : Option Addr) (n c : Nat) (l : List Int) (hn : n = l.length) (hr : Kd.C (Kd.int .u8) w A n l) (hc : n ≤ c) (hb : Bytes l) (B : Option Addr) (c1 : Nat) (h1 : Kd.C (Kd.int .u8) w B 3 markL) (hc1 : 3 ≤ c1) (hyes : l.take 3 = markL) :
    Calls Try.prog 25 #[.slice A n c, .slice B 3 c1] w fun e w' => (∃ A', e = .returned (.tuple #[.slice A' (n - 3) (c - 3), .bool true]) ∧ Kd.C (Kd.int .u8) w' A' (n - 3) (l.drop 3)) ∧ Drawn0 w w' := by
  have hq := prefix_calls w A n c l hn hr hc hb B c1 h1 hc1
  rw [decide_eq_true hyes] at hq
  have h3n : 3 ≤ n := by
    have := congrArg List.length hyes
    rw [List.length_take] at this
    have h3 : markL.length = 3 := rfl
    omega
  obtain ⟨i0, hi0, _, hsz0, _⟩ := info_parts info8
  obtain ⟨A', hcut, hA'⟩ := print_cut_of (P := Try.prog) (Value.int .u8) 0 22 5 .i64 Try.underlying22 hi0 hsz0 A n c 3 h3n
  have hC' := fun (W : World) (h : Drawn0 w W) => Kd.C_below (Kd.C_of_reads (h1 := fun _ => rfl) (hA' w l hc (Kd.reads_of_C hr))) h.below
  have HC' := Lib.hid hC'
  have HQ := Lib.hid hq
  clear hn hq hr h1 hA' hC' hi0 hsz0
  have hcut2 : ∀ W : World, (Instr.slice 22 (.slice A n c) (some (.int .i64 3)) none none).run Try.prog W = .ok (.slice A' (n - 3) (c - 3)) W := hcut
  clear hcut
  go_enter Try.func25, Try.ntmps25
  go_wp2_with (go_at_call 40; with_reducible refine HQ.out.mono ?_; rintro e w1 ⟨rfl, hd1⟩; have HD := Lib.hid hd1; clear hd1)
  go_ret2
  exact ⟨⟨A', rfl, HC'.out _ HD.out⟩, HD.out⟩
end Go.Proofs.Ytmidmdbhbhjcdaa.By
