/-
  addr: the document's skip and take. Conditions: as the theorems state them.
-/
import Derived.Test.YtjbhcaifmgbpgaaDoorAl
import Derived.Laws.DeepStrings4
namespace Go.Proofs.YtjbhcaifmgbpgaaDoor.Ad
open Go Go.RowKit Go.Shelf Go.Proofs.YtjbhcaifmgbpgaaDoorW.PrintWords Go.Proofs.YtjbhcaifmgbpgaaDoorW.PrintLast Go.Proofs.YtjbhcaifmgbpgaaDoorW.PrintMore
set_option linter.unusedVariables false
set_option linter.unusedSimpArgs false
attribute [local go_sem] Oper.semAt_some
theorem cut_eq (s word : Str) (n : Nat) (h : n + word.length ≤ s.length) : ((mk s).extract n (n + word.length)).toList == (mk word).toList ↔ (s.drop n).take word.length = word := by
  rw [Go.ByteArray.toList_eq, Go.ByteArray.toList_eq, mk_data, Lib.extract_data, mk_data]
  rw [show n + word.length - n = word.length by omega]
  simp
set_option maxRecDepth 100000 in
set_option maxHeartbeats 4000000 in
theorem skip_calls (w : World) (s word : Str) (at_ : Int) (hs : s.length ≤ 1000000) (hw : word.length ≤ 1000) (h0 : -1 ≤ at_) (h1 : at_ ≤ s.length) :
    Calls Tryd.prog 30 #[.string (mk s), .int .i64 at_, .string (mk word)] w fun e w' => e = .returned (.int .i64 (skipF s at_ word)) ∧ w = w' := by
  have hsz := mk_size s
  have hwz := mk_size word
  go_enter Tryd.func30, Tryd.ntmps30
  by_cases hn : at_ < 0
  · have e : skipF s at_ word = -1 := by unfold skipF; rw [if_pos (.inl hn)]
    have b1 : decide (at_ < 0) = true := decide_eq_true hn
    go_wp2
    go_ret
    refine ⟨?_, rfl⟩
    show Ending.returned (.int .i64 (-1)) = _
    rw [e]
  · obtain ⟨n, rfl⟩ : ∃ n : Nat, at_ = n := ⟨at_.toNat, by omega⟩
    have hw1 : wrap64 ((n : Int) + ((mk word).size : Int)) = n + word.length := by rw [hwz]; unfold wrap64; omega
    have hw2 : wrap64 ((n : Int) + (word.length : Int)) = n + word.length := by unfold wrap64; omega
    have b1 : decide ((n : Int) < 0) = false := decide_eq_false hn
    by_cases hl : s.length < n + word.length
    · have e : skipF s n word = -1 := by unfold skipF; rw [if_pos (.inr (.inl (by omega)))]
      have b2 : decide ((s.length : Int) < (n : Int) + (word.length : Int)) = true := decide_eq_true (by omega)
      have b3 : decide (s.length < n + word.length) = true := decide_eq_true hl
      have E := Lib.hid e
      clear e
      go_wp2
      go_ret
      refine ⟨?_, rfl⟩
      show Ending.returned (.int .i64 (-1)) = _
      rw [E.out]
    · have b2 : decide ((s.length : Int) < (n : Int) + (word.length : Int)) = false := decide_eq_false (by omega)
      have b3 : decide (s.length < n + word.length) = false := decide_eq_false hl
      have c1 : (n : Int) + (word.length : Int) ≤ (s.length : Int) := by omega
      have t1 : ((n : Int) + (word.length : Int)).toNat = n + word.length := by omega
      have hcut := cut_eq s word n (by omega)
      by_cases hq : (s.drop n).take word.length = word
      · have e : skipF s n word = n + word.length := by unfold skipF; rw [if_neg (by rw [not_or, not_or]; exact ⟨hn, by omega, by rw [Int.toNat_natCast]; simpa using hq⟩)]
        have q : (((mk s).extract n (n + word.length)).toList == (mk word).toList) = true := hcut.2 hq
        have E := Lib.hid e
        clear e hcut hq
        go_wp2
        go_ret
        refine ⟨?_, rfl⟩
        show Ending.returned (.int .i64 ((n : Int) + (word.length : Int))) = _
        rw [E.out]
      · have e : skipF s n word = -1 := by unfold skipF; rw [if_pos (.inr (.inr (by rw [Int.toNat_natCast]; exact hq)))]
        have q : (((mk s).extract n (n + word.length)).toList == (mk word).toList) = false := by rw [Bool.eq_false_iff]; exact fun h => hq (hcut.1 h)
        have E := Lib.hid e
        clear e hcut hq
        go_wp2
        go_ret
        refine ⟨?_, rfl⟩
        show Ending.returned (.int .i64 (-1)) = _
        rw [E.out]
/-! ### take -/
theorem tw_cases : ∀ (L : Str) (i : Nat), i ≤ (L.takeWhile (fun b => decide (isDig b))).length → (∃ x, (L.takeWhile (fun b => decide (isDig b)))[i]? = some x ∧ L[i]? = some x ∧ isDig x) ∨ (i = (L.takeWhile (fun b => decide (isDig b))).length ∧ ∀ x, L[i]? = some x → ¬ isDig x)
  | [], i, hi => .inr ⟨by simpa using hi, fun x h => by simp at h⟩
  | b :: L, i, hi => by
    by_cases hb : isDig b
    · have e : (b :: L).takeWhile (fun b => decide (isDig b)) = b :: L.takeWhile (fun b => decide (isDig b)) := List.takeWhile_cons_of_pos (by simpa using hb)
      rw [e] at hi ⊢
      cases i with
      | zero => exact .inl ⟨b, rfl, rfl, hb⟩
      | succ i =>
        rcases tw_cases L i (by simpa using hi) with ⟨x, h1, h2, h3⟩ | ⟨h1, h2⟩
        · exact .inl ⟨x, by simpa using h1, by simpa using h2, h3⟩
        · exact .inr ⟨by simpa using h1, fun x hx => h2 x (by simpa using hx)⟩
    · have e : (b :: L).takeWhile (fun b => decide (isDig b)) = [] := List.takeWhile_cons_of_neg (by simpa using hb)
      rw [e] at hi ⊢
      have : i = 0 := by simpa using hi
      subst this
      exact .inr ⟨rfl, fun x hx => by simp at hx; rw [← hx]; exact hb⟩
theorem run_cases (s : Str) (n0 i : Nat) (hi : i ≤ (runF s n0).length) :
    (∃ x, (runF s n0)[i]? = some x ∧ s[n0 + i]? = some x ∧ isDig x) ∨ (i = (runF s n0).length ∧ ∀ x, s[n0 + i]? = some x → ¬ isDig x) := by
  unfold runF at hi ⊢
  rw [Int.toNat_natCast] at hi ⊢
  have := tw_cases (s.drop n0) i hi
  rwa [List.getElem?_drop] at this
theorem val_mono (l : Str) : ∀ r : Str, val l ≤ val (l ++ r) := by
  intro r
  induction r generalizing l with
  | nil => rw [List.append_nil]; exact Nat.le_refl _
  | cons b r ih =>
    have := ih (l ++ [b])
    rw [List.append_assoc] at this
    have h2 := val_snoc l b
    simp only [List.singleton_append] at this
    omega
theorem val_take (l : Str) (k : Nat) : val (l.take k) ≤ val l := by
  have := val_mono (l.take k) (l.drop k)
  rwa [List.take_append_drop] at this
def TakePost (w : World) (s : Str) (at_ : Int) (e : Ending) (w' : World) : Prop := e = .returned (.tuple #[.int .i64 (takeF s at_).1, .int .i64 (takeF s at_).2]) ∧ w = w'
theorem take_end (s : Str) (n : Nat) (hn : n ≤ s.length) {R : Str} (hR : runF s n = R) (hm : val R ≤ 2147483647) :
    (n + R.length = n ∧ takeF s n = (0, -1)) ∨ (n + R.length ≠ n ∧ ∃ c0 : Nat, ∃ h : n < s.length, (s[n]'h).toNat = c0 ∧ ((c0 = 48 ∧ n + 1 < n + R.length ∧ takeF s n = (0, -1)) ∨ (c0 = 48 ∧ ¬ n + 1 < n + R.length ∧ takeF s n = ((val R : Int), ((n + R.length : Nat) : Int))) ∨ (c0 ≠ 48 ∧ takeF s n = ((val R : Int), ((n + R.length : Nat) : Int))))) := by
  cases hr : R with
  | nil =>
    refine .inl ⟨by simp, ?_⟩
    unfold takeF
    rw [hR, hr, if_pos (.inr (.inl rfl))]
  | cons x r =>
    refine .inr ⟨by simp, ?_⟩
    have h0 := run_cases s n 0 (Nat.zero_le _)
    rw [hR, hr] at h0
    obtain ⟨y, h1, h2, h3⟩ := h0.resolve_right (fun h => by have := h.1; simp at this)
    have hy : x = y := by simpa using h1
    subst hy
    rw [Nat.add_zero] at h2
    obtain ⟨h4, h5⟩ := List.getElem?_eq_some_iff.1 h2
    refine ⟨x.toNat, h4, by rw [h5], ?_⟩
    rw [hr] at hm
    by_cases h48 : x.toNat = 48
    · by_cases hl : n + 1 < n + (x :: r).length
      · refine .inl ⟨h48, hl, ?_⟩
        unfold takeF
        rw [hR, hr, if_pos (.inr (.inr (.inr ⟨by simp [h48], by simpa using hl⟩)))]
      · refine .inr (.inl ⟨h48, hl, ?_⟩)
        unfold takeF
        rw [hR, hr, if_neg (by rw [not_or, not_or, not_or]; exact ⟨by omega, by simp, by omega, fun h => hl (by have := h.2; simpa using this)⟩)]
        rfl
    · refine .inr (.inr ⟨h48, ?_⟩)
      unfold takeF
      rw [hR, hr, if_neg (by rw [not_or, not_or, not_or]; exact ⟨by omega, by simp, by omega, fun h => h48 (by simpa using h.1)⟩)]
      rfl
set_option maxRecDepth 100000 in
set_option maxHeartbeats 4000000 in
theorem take_calls (w : World) (s : Str) (at_ : Int) (hs : s.length ≤ 1000000) (h0 : -1 ≤ at_) (h1 : at_ ≤ s.length) :
    Calls Tryd.prog 31 #[.string (mk s), .int .i64 at_] w (TakePost w s at_) := by
  have hsz := mk_size s
  go_enter Tryd.func31, Tryd.ntmps31
  go_upto_region 3 with fail
  by_cases hn : at_ < 0
  · obtain rfl : at_ = -1 := by omega
    have e : takeF s (-1) = (0, -1) := by unfold takeF; rw [if_pos (.inl (by decide))]
    have E := Lib.hid e
    clear h0 h1 hn e
    go_loopw [1, 6] (fun v1 v6 wr => v1 = .int .i64 (-1) ∧ wr = w) (fun _ _ _ => 0)
    case atStart => exact ⟨rfl, rfl⟩
    case round =>
      obtain ⟨rfl, rfl⟩ := hrel
      go_wp2
      go_ret2
      refine ⟨?_, rfl⟩
      show Ending.returned (.tuple #[.int .i64 0, .int .i64 (-1)]) = _
      rw [E.out]
  · obtain ⟨n, rfl⟩ : ∃ n : Nat, at_ = n := ⟨at_.toNat, by omega⟩
    have hn1 : n ≤ s.length := by omega
    obtain ⟨R, hR⟩ : ∃ R, runF s n = R := ⟨_, rfl⟩
    have hrc := run_cases s n
    rw [hR] at hrc
    have HRC := Lib.hid hrc
    have HR := Lib.hid hR
    have HN := Lib.hid hn1
    have HS := Lib.hid hs
    clear h0 h1 hn hrc hR hn1 hs
    go_loopw [1, 6] (fun v1 v6 wr => ∃ i m : Nat, v1 = .int .i64 ((n + i : Nat) : Int) ∧ v6 = .int .i64 (m : Int) ∧ m = val (R.take i) ∧ m ≤ 2147483647 ∧ i ≤ R.length ∧ n + i ≤ s.length ∧ wr = w) (fun v1 _ _ => s.length - (intOf v1).toNat)
    case atStart => exact ⟨0, 0, rfl, rfl, rfl, by decide, Nat.zero_le _, HN.out, rfl⟩
    case round =>
      obtain ⟨i, m, rfl, rfl, hm, hm2, hi, hni, rfl⟩ := hrel
      obtain ⟨k, hk⟩ : ∃ k, n + i = k := ⟨_, rfl⟩
      rw [hk] at hni ⊢
      have c0 : decide ((k : Int) ≥ 0) = true := decide_eq_true (by omega)
      have HM := Lib.hid hm
      have HK := Lib.hid hk
      have HI := Lib.hid hi
      clear hm hk
      rcases HRC.out i hi with ⟨x, r1, r2, r3⟩ | ⟨r1, r2⟩
      · rw [HK.out] at r2
        obtain ⟨r4, r5⟩ := List.getElem?_eq_some_iff.1 r2
        have c1 : (k : Int) < (s.length : Int) := by omega
        unfold isDig at r3
        obtain ⟨c, hc⟩ : ∃ c, x.toNat = c := ⟨_, rfl⟩
        have hx : ∀ h, ((mk s)[k]'h).toNat = c := fun h => by rw [show (mk s)[k]'h = s[k]'r4 from rfl, r5]; exact hc
        rw [hc] at r3
        have d1 : decide ((c : Int) ≥ 48) = true := decide_eq_true (by omega)
        have d2 : decide (48 ≤ c) = true := decide_eq_true (by omega)
        have d3 : decide ((48 : Int) ≤ c) = true := decide_eq_true (by omega)
        have d4 : decide ((c : Int) ≤ 57) = true := decide_eq_true (by omega)
        have d5 : decide (c ≤ 57) = true := decide_eq_true (by omega)
        have d6 : ((c : Int) - 48) % 256 = c - 48 := by omega
        have d7 : wrap64 ((k : Int) + 1) = k + 1 := by have := HS.out; unfold wrap64; omega
        obtain ⟨M, hM⟩ : ∃ M : Nat, m * 10 + (c - 48) = M := ⟨_, rfl⟩
        have hM2 : (m : Int) * 10 + ((c : Int) - 48) = M := by omega
        have hMb : M ≤ 30000000000 := by omega
        have d8 : wrap64 ((m : Int) * 10) = m * 10 := by unfold wrap64; omega
        have d9 : wrap64 (M : Int) = M := by unfold wrap64; omega
        have hval : val (R.take (i + 1)) = M := by
          rw [List.take_add_one, r1]
          show val (R.take i ++ [x]) = M
          rw [val_snoc, ← HM.out, hc, hM]
        have HV := Lib.hid hval
        have HR1 := Lib.hid (List.getElem?_eq_some_iff.1 r1).1
        clear r1 r2 r3 r5 hc hM hval hi hm2
        by_cases hbig : 2147483647 < M
        · have e1 : decide ((M : Int) > 2147483647) = true := decide_eq_true (by omega)
          have e2 : decide (2147483647 < M) = true := decide_eq_true hbig
          have e3 : decide ((2147483647 : Int) < M) = true := decide_eq_true (by omega)
          have ht : takeF s n = (0, -1) := by
            unfold takeF
            rw [HR.out, if_pos (.inr (.inr (.inl (by have := val_take R (i + 1); rw [HV.out] at this; omega))))]
          have HT := Lib.hid ht
          clear ht
          go_wp2
          go_ret2
          refine ⟨?_, rfl⟩
          show Ending.returned (.tuple #[.int .i64 0, .int .i64 (-1)]) = _
          rw [HT.out]
        · have e1 : decide ((M : Int) > 2147483647) = false := decide_eq_false (by omega)
          have e2 : decide (2147483647 < M) = false := decide_eq_false hbig
          have e3 : decide ((2147483647 : Int) < M) = false := decide_eq_false (by omega)
          have HBIG := Lib.hid hbig
          clear hbig
          go_wp2
          rw [d7]
          have hr4 : k < s.length := r4
          clear hM2 hMb d1 d2 d3 d4 d5 d6 d7 d8 d9 e1 e2 e3 r4 c0 c1 hsz hx
          refine ⟨⟨i + 1, M, by rw [← HK.out]; go_num, rfl, HV.out.symm, Nat.le_of_not_lt HBIG.out, HR1.out, by have := HK.out; omega, trivial⟩, ?_⟩
          show s.length - ((k : Int) + 1).toNat < s.length - (k : Int).toNat
          omega
      · subst r1
        have hmR : m = val R := by rw [HM.out, List.take_length]
        have htl := take_end s n HN.out HR.out (by rw [← hmR]; exact hm2)
        rw [HK.out, ← hmR] at htl
        rw [HK.out] at r2
        have hex : (¬ (k < s.length)) ∨ ∃ (h : k < s.length) (c : Nat), (s[k]'h).toNat = c ∧ (c < 48 ∨ 57 < c) := by
          by_cases hkl : k < s.length
          · refine .inr ⟨hkl, _, rfl, ?_⟩
            have := r2 (s[k]'hkl) (List.getElem?_eq_getElem hkl)
            unfold isDig at this
            omega
          · exact .inl hkl
        clear r2 hmR hi
        have hn9 : decide ((n : Int) < 0) = false := decide_eq_false (by omega)
        have w9 : wrap64 ((n : Int) + 1) = n + 1 := by have := HN.out; have := HS.out; unfold wrap64; omega
        rcases htl with ⟨hkn, ht⟩ | ⟨hkn, c0, hc0l, hc0, htl⟩
        · have p1 : ((k : Int) == (n : Int)) = true := by rw [hkn]; simp
          have p1' : (k == n) = true := by rw [hkn]; simp
          have HT := Lib.hid ht
          clear ht hkn
          rcases hex with hkl | ⟨hkl, c, hc, hcc | hcc⟩
          · have q1 : decide ((k : Int) < (s.length : Int)) = false := decide_eq_false (by omega)
            have q1' : decide (k < s.length) = false := decide_eq_false hkl
            clear hkl
            go_wp2
            go_ret2
            refine ⟨?_, rfl⟩
            show Ending.returned (.tuple #[.int .i64 0, .int .i64 (-1)]) = _
            rw [HT.out]
          · have hx : ∀ h, ((mk s)[k]'h).toNat = c := fun h => hc
            have q0 : (k : Int) < (s.length : Int) := by omega
            have q1 : decide ((c : Int) ≥ 48) = false := decide_eq_false (by omega)
            have q1' : decide (48 ≤ c) = false := decide_eq_false (by omega)
            have q1'' : decide ((48 : Int) ≤ c) = false := decide_eq_false (by omega)
            clear hc hcc
            go_wp2
            go_ret2
            refine ⟨?_, rfl⟩
            show Ending.returned (.tuple #[.int .i64 0, .int .i64 (-1)]) = _
            rw [HT.out]
          · have hx : ∀ h, ((mk s)[k]'h).toNat = c := fun h => hc
            have q0 : (k : Int) < (s.length : Int) := by omega
            have q1 : decide ((c : Int) ≥ 48) = true := decide_eq_true (by omega)
            have q1' : decide (48 ≤ c) = true := decide_eq_true (by omega)
            have q1'' : decide ((48 : Int) ≤ c) = true := decide_eq_true (by omega)
            have q2 : decide ((c : Int) ≤ 57) = false := decide_eq_false (by omega)
            have q2' : decide (c ≤ 57) = false := decide_eq_false (by omega)
            clear hc hcc
            go_wp2
            go_ret2
            refine ⟨?_, rfl⟩
            show Ending.returned (.tuple #[.int .i64 0, .int .i64 (-1)]) = _
            rw [HT.out]
        · have p1 : ((k : Int) == (n : Int)) = false := by rw [beq_eq_false_iff_ne]; omega
          have p1' : (k == n) = false := by rw [beq_eq_false_iff_ne]; exact hkn
          have hx0 : ∀ h, ((mk s)[n]'h).toNat = c0 := fun h => hc0
          have p0 : (n : Int) < (s.length : Int) := by omega
          clear hc0 hkn
          rcases htl with ⟨h48, hlt, ht⟩ | ⟨h48, hlt, ht⟩ | ⟨h48, ht⟩
          · have p2 : ((c0 : Int) == 48) = true := by simp [h48]
            have p2' : (c0 == 48) = true := by simp [h48]
            have p3 : decide ((k : Int) > (n : Int) + 1) = true := decide_eq_true (by omega)
            have p3' : decide (n + 1 < k) = true := decide_eq_true (by omega)
            have p3'' : decide ((n : Int) + 1 < k) = true := decide_eq_true (by omega)
            clear hlt
            have HT := Lib.hid ht
            clear ht h48
            rcases hex with hkl | ⟨hkl, c, hc, hcc | hcc⟩
            · have q1 : decide ((k : Int) < (s.length : Int)) = false := decide_eq_false (by omega)
              have q1' : decide (k < s.length) = false := decide_eq_false hkl
              clear hkl
              go_wp2
              go_ret2
              refine ⟨?_, rfl⟩
              show Ending.returned (.tuple #[.int .i64 0, .int .i64 (-1)]) = _
              rw [HT.out]
            · have hx : ∀ h, ((mk s)[k]'h).toNat = c := fun h => hc
              have q0 : (k : Int) < (s.length : Int) := by omega
              have q1 : decide ((c : Int) ≥ 48) = false := decide_eq_false (by omega)
              have q1' : decide (48 ≤ c) = false := decide_eq_false (by omega)
              have q1'' : decide ((48 : Int) ≤ c) = false := decide_eq_false (by omega)
              clear hc hcc
              go_wp2
              go_ret2
              refine ⟨?_, rfl⟩
              show Ending.returned (.tuple #[.int .i64 0, .int .i64 (-1)]) = _
              rw [HT.out]
            · have hx : ∀ h, ((mk s)[k]'h).toNat = c := fun h => hc
              have q0 : (k : Int) < (s.length : Int) := by omega
              have q1 : decide ((c : Int) ≥ 48) = true := decide_eq_true (by omega)
              have q1' : decide (48 ≤ c) = true := decide_eq_true (by omega)
              have q1'' : decide ((48 : Int) ≤ c) = true := decide_eq_true (by omega)
              have q2 : decide ((c : Int) ≤ 57) = false := decide_eq_false (by omega)
              have q2' : decide (c ≤ 57) = false := decide_eq_false (by omega)
              clear hc hcc
              go_wp2
              go_ret2
              refine ⟨?_, rfl⟩
              show Ending.returned (.tuple #[.int .i64 0, .int .i64 (-1)]) = _
              rw [HT.out]
          · have p2 : ((c0 : Int) == 48) = true := by simp [h48]
            have p2' : (c0 == 48) = true := by simp [h48]
            have p3 : decide ((k : Int) > (n : Int) + 1) = false := decide_eq_false (by omega)
            have p3' : decide (n + 1 < k) = false := decide_eq_false (by omega)
            have p3'' : decide ((n : Int) + 1 < k) = false := decide_eq_false (by omega)
            clear hlt
            have HT := Lib.hid ht
            clear ht h48
            rcases hex with hkl | ⟨hkl, c, hc, hcc | hcc⟩
            · have q1 : decide ((k : Int) < (s.length : Int)) = false := decide_eq_false (by omega)
              have q1' : decide (k < s.length) = false := decide_eq_false hkl
              clear hkl
              go_wp2
              go_ret2
              refine ⟨?_, rfl⟩
              show Ending.returned (.tuple #[.int .i64 (m : Int), .int .i64 (k : Int)]) = _
              rw [HT.out]
            · have hx : ∀ h, ((mk s)[k]'h).toNat = c := fun h => hc
              have q0 : (k : Int) < (s.length : Int) := by omega
              have q1 : decide ((c : Int) ≥ 48) = false := decide_eq_false (by omega)
              have q1' : decide (48 ≤ c) = false := decide_eq_false (by omega)
              have q1'' : decide ((48 : Int) ≤ c) = false := decide_eq_false (by omega)
              clear hc hcc
              go_wp2
              go_ret2
              refine ⟨?_, rfl⟩
              show Ending.returned (.tuple #[.int .i64 (m : Int), .int .i64 (k : Int)]) = _
              rw [HT.out]
            · have hx : ∀ h, ((mk s)[k]'h).toNat = c := fun h => hc
              have q0 : (k : Int) < (s.length : Int) := by omega
              have q1 : decide ((c : Int) ≥ 48) = true := decide_eq_true (by omega)
              have q1' : decide (48 ≤ c) = true := decide_eq_true (by omega)
              have q1'' : decide ((48 : Int) ≤ c) = true := decide_eq_true (by omega)
              have q2 : decide ((c : Int) ≤ 57) = false := decide_eq_false (by omega)
              have q2' : decide (c ≤ 57) = false := decide_eq_false (by omega)
              clear hc hcc
              go_wp2
              go_ret2
              refine ⟨?_, rfl⟩
              show Ending.returned (.tuple #[.int .i64 (m : Int), .int .i64 (k : Int)]) = _
              rw [HT.out]
          · have p2 : ((c0 : Int) == 48) = false := by rw [beq_eq_false_iff_ne]; omega
            have p2' : (c0 == 48) = false := by rw [beq_eq_false_iff_ne]; exact h48
            have HT := Lib.hid ht
            clear ht h48
            rcases hex with hkl | ⟨hkl, c, hc, hcc | hcc⟩
            · have q1 : decide ((k : Int) < (s.length : Int)) = false := decide_eq_false (by omega)
              have q1' : decide (k < s.length) = false := decide_eq_false hkl
              clear hkl
              go_wp2
              go_ret2
              refine ⟨?_, rfl⟩
              show Ending.returned (.tuple #[.int .i64 (m : Int), .int .i64 (k : Int)]) = _
              rw [HT.out]
            · have hx : ∀ h, ((mk s)[k]'h).toNat = c := fun h => hc
              have q0 : (k : Int) < (s.length : Int) := by omega
              have q1 : decide ((c : Int) ≥ 48) = false := decide_eq_false (by omega)
              have q1' : decide (48 ≤ c) = false := decide_eq_false (by omega)
              have q1'' : decide ((48 : Int) ≤ c) = false := decide_eq_false (by omega)
              clear hc hcc
              go_wp2
              go_ret2
              refine ⟨?_, rfl⟩
              show Ending.returned (.tuple #[.int .i64 (m : Int), .int .i64 (k : Int)]) = _
              rw [HT.out]
            · have hx : ∀ h, ((mk s)[k]'h).toNat = c := fun h => hc
              have q0 : (k : Int) < (s.length : Int) := by omega
              have q1 : decide ((c : Int) ≥ 48) = true := decide_eq_true (by omega)
              have q1' : decide (48 ≤ c) = true := decide_eq_true (by omega)
              have q1'' : decide ((48 : Int) ≤ c) = true := decide_eq_true (by omega)
              have q2 : decide ((c : Int) ≤ 57) = false := decide_eq_false (by omega)
              have q2' : decide (c ≤ 57) = false := decide_eq_false (by omega)
              clear hc hcc
              go_wp2
              go_ret2
              refine ⟨?_, rfl⟩
              show Ending.returned (.tuple #[.int .i64 (m : Int), .int .i64 (k : Int)]) = _
              rw [HT.out]
end Go.Proofs.YtjbhcaifmgbpgaaDoor.Ad
