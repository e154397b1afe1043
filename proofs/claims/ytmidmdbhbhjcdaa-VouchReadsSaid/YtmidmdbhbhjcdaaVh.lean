/-
  The reference's Check beside a notary and its reference; VouchReads: whatever was minted, every row of bytes is read and checked as the document says. Condition: bytes are bytes, numbers of their kind.
-/
import Derived.Test.YtmidmdbhbhjcdaaVq
namespace Go.Proofs.Ytmidmdbhbhjcdaa.By
open Go.RowKit Go.Shelf Go.Proofs.Ytmidmdbhbhjcdaa.Sp Go.Proofs.Ytmidmdbhbhjcdaa.Nt Go.Proofs.Ytmidmdbhbhjcdaa.H Go.Proofs.Ytmidmdbhbhjcdaa.Uv Go.Proofs.Ytmidmdbhbhjcdaa.Fr Go.Proofs.YtmidmdbhbhjcdaaW.PrintWords Go.Proofs.YtmidmdbhbhjcdaaW.PrintLast Go.Proofs.YtmidmdbhbhjcdaaW.PrintMore
set_option linter.unusedVariables false
set_option linter.unusedSimpArgs false
theorem rtext_n (w : World) (r p u : Int) (hm : mayF r p u = true) : Calls Try.prog 11 #[.int .i64 r, .int .i64 p, .int .i64 u] w fun e w' => ∃ A m c, e = .returned (.slice A m c) ∧ m = (textL [r, p, u]).length ∧ m ≤ c ∧ Kd.C (Kd.int .u8) w' A m (textL [r, p, u]) ∧ Below w.heap.size w w' := by
  have hb := may_nums hm
  refine (rtext_calls w r p u (hb r (by simp)) (hb p (by simp)) (hb u (by simp))).mono ?_
  rintro e w' ⟨v, rfl, hR, hbl⟩
  obtain ⟨A, c, rfl, hc, hC⟩ := Kd.R_reads hR
  exact ⟨A, _, c, rfl, rfl, hc, hC, hbl⟩
theorem two_one {w : World} {base g r : Nat} {L M : List Ent} {av : Nat → Prop} (h : TwoAt w base g L r M av) : OneAt w base g L av := by
  obtain ⟨okN, okR, h1, h2, h3, h4, h5, h6⟩ := h
  exact ⟨okN, h1, h4, fun k hk => ⟨(h6 k hk).1, (h6 k hk).2.1⟩⟩
theorem two_mint_n (w : World) (base : Nat) (g r : Nat) (L M : List Ent) (av : Nat → Prop) (p : Int) (A : Option Addr) (n c : Nat) (l : List Int) (hn : n = l.length) (h : TwoAt w base g L r M av) (hb : base ≤ w.heap.size)
    (hr : Kd.C (Kd.int .u8) w A n l) (hc : n ≤ c) (hx : fine (p, l)) (hL : L.length ≤ 1000000) (N : List Ent) (hN : (mintF L p l).2.2 = N) :
    Calls Try.prog 10 #[.pointer (some ⟨g, 0, none⟩), .int .i64 p, .slice A n c] w fun e w' => (∃ v, e = .returned v) ∧ TwoAt w' base g N r M av ∧ Below base w w' ∧ ∀ b, av b → w'.heap[b]? = w.heap[b]? := by
  subst hn hN
  exact (two_mint w base g r L M av p A c l h hb hr hc hx hL).mono fun e w' ⟨h1, h2⟩ => ⟨⟨_, h1⟩, h2⟩
theorem two_rmint_n (w : World) (base : Nat) (g r : Nat) (L M : List Ent) (av : Nat → Prop) (p : Int) (A : Option Addr) (n c : Nat) (l : List Int) (hn : n = l.length) (h : TwoAt w base g L r M av) (hb : base ≤ w.heap.size)
    (hr : Kd.C (Kd.int .u8) w A n l) (hc : n ≤ c) (hl : n ≤ 1000000) (hL : M.length ≤ 1000000) (hf : ∀ x ∈ M, fine x) (N : List Ent) (hN : (mintF M p l).2.2 = N) :
    Calls Try.prog 12 #[.pointer (some ⟨r, 0, none⟩), .int .i64 p, .slice A n c] w fun e w' => (∃ v, e = .returned v) ∧ TwoAt w' base g L r N av ∧ Below base w w' ∧ ∀ b, av b → w'.heap[b]? = w.heap[b]? := by
  subst hn hN
  exact (two_rmint w base g r L M av p A c l h hb hr hc hl hL hf).mono fun e w' ⟨h1, h2⟩ => ⟨⟨_, h1⟩, h2⟩
theorem two_rcheck_n (w : World) (base : Nat) (g r : Nat) (L M : List Ent) (av : Nat → Prop) (p : Int) (A : Option Addr) (n c : Nat) (l : List Int) (tag : Int) (hn : n = l.length) (h : TwoAt w base g L r M av) (hr : Kd.C (Kd.int .u8) w A n l) (hc : n ≤ c) (hL : M.length ≤ 1000000) (hf : ∀ x ∈ M, fine x) :
    Calls Try.prog 34 #[.pointer (some ⟨r, 0, none⟩), .int .i64 p, .slice A n c, .int .u64 tag] w fun e w' => e = .returned (.int .i64 (checkF M p l tag)) ∧ ∃ n, w' = w.drewN n := by
  subst hn
  exact two_rcheck w base g r L M av p A c l tag h hr hc hL hf
set_option maxRecDepth 100000 in
set_option maxHeartbeats 4000000 in
theorem rvcheck_calls (w : World) (base g r0 : Nat) (L M : List Ent) (av : Nat → Prop) (A : Option Addr) (n c : Nat) (b : List Int) (relay peer now : Int) (h : TwoAt w base g L r0 M av) (hL : M.length ≤ 100000) (hf : ∀ x ∈ M, fine x)
    (hn : n = b.length) (hr : Kd.C (Kd.int .u8) w A n b) (hc : n ≤ c) (hb : Bytes b) (hl : n ≤ 1000000) :
    Calls Try.prog 16 #[.pointer (some ⟨r0, 0, none⟩), .slice A n c, .int .i64 relay, .int .i64 peer, .int .i64 now] w fun e w' => e = .returned (.tuple #[.int .i64 (checkV M b relay peer now).1, .int .i64 (checkV M b relay peer now).2]) ∧ Below w.heap.size w w' := by
  have KR := rread_calls w A n c b hn hr hc hb hl
  rcases readV_cases b with ⟨r, p, u, tag, hg, hv⟩ | ⟨hno, hv⟩
  · rw [readR_good hg] at KR
    rw [checkV_good hv]
    have htag := hg.2.1
    have htag2 := hg.2.2.1
    have HM := Lib.hid hg.1
    have KR := Lib.hid KR
    have H := Lib.hid h
    have HF := Lib.hid hf
    clear hv hg hr hb h hn hf
    by_cases h1 : r = relay
    · by_cases h2 : p = peer
      · subst h1 h2
        have b1 : (r != r) = false := by simp
        have b2 : (p != p) = false := by simp
        rw [if_neg (by simp)]
        obtain ⟨cf, hcf⟩ : ∃ q, checkF M r (textL [r, p, u]) tag = q := ⟨_, rfl⟩
        rw [hcf]
        have HCF := Lib.hid hcf
        obtain ⟨q, hq⟩ : ∃ q : Int × Int, (if cf ≠ 0 then (0, 12) else if u ≤ now then (0, 11) else (u, 0)) = q := ⟨_, rfl⟩
        rw [hq]
        have HQ := Lib.hid hq
        clear hcf hq
        go_enter Try.func16, Try.ntmps16
        go_upto_region 6 with (go_at_call 14; with_reducible refine KR.out.mono ?_; rintro e1 w1 ⟨rfl, hb1⟩; have HB1 := Lib.hid hb1; clear hb1)
        have KT := Lib.hid (rtext_n w1 r p u HM.out)
        have K8 := Lib.hid (fun (W : World) (A7 : Option Addr) (m7 c7 : Nat) (hb7 : Below w1.heap.size w1 W) (hm7 : m7 = (textL [r, p, u]).length) (hC7 : Kd.C (Kd.int .u8) W A7 m7 (textL [r, p, u])) (hc7 : m7 ≤ c7) =>
          two_rcheck_n W base g r0 L M _ r A7 m7 c7 (textL [r, p, u]) tag hm7 ((H.out.step HB1.out).step' hb7) hC7 hc7 (by omega) HF.out)
        rw [HCF.out] at K8
        by_cases h3 : cf = 0
        · subst h3
          have b3 : ((0 : Int) != 0) = false := rfl
          by_cases h4 : u ≤ now
          · have b4 : decide (u ≤ now) = true := decide_eq_true h4
            have hq := HQ.out
            rw [if_neg (by simp), if_pos h4] at hq
            subst hq
            clear h4
            go_wp2_with (first
              | (go_at_call 11; with_reducible refine KT.out.mono ?_; rintro e w7 ⟨A7, m7, c7, rfl, hm7, hc7, hR7, hb7⟩; have HM7 := Lib.hid hm7; have HR7 := Lib.hid hR7; have HB7 := Lib.hid hb7; clear hm7 hR7 hb7)
              | (go_at_call 34; refine (K8.out w7 A7 m7 c7 HB7.out HM7.out HR7.out hc7).mono ?_; rintro e w8 ⟨rfl, n8, rfl⟩))
            go_ret2
            exact ⟨rfl, HB1.out.trans ((below_drN HB7.out n8).mono HB1.out.size)⟩
          · have b4 : decide (u ≤ now) = false := decide_eq_false h4
            have hq := HQ.out
            rw [if_neg (by simp), if_neg h4] at hq
            subst hq
            clear h4
            go_wp2_with (first
              | (go_at_call 11; with_reducible refine KT.out.mono ?_; rintro e w7 ⟨A7, m7, c7, rfl, hm7, hc7, hR7, hb7⟩; have HM7 := Lib.hid hm7; have HR7 := Lib.hid hR7; have HB7 := Lib.hid hb7; clear hm7 hR7 hb7)
              | (go_at_call 34; refine (K8.out w7 A7 m7 c7 HB7.out HM7.out HR7.out hc7).mono ?_; rintro e w8 ⟨rfl, n8, rfl⟩))
            go_ret2
            exact ⟨rfl, HB1.out.trans ((below_drN HB7.out n8).mono HB1.out.size)⟩
        · have b3 : (cf != 0) = true := by simpa using h3
          have hq := HQ.out
          rw [if_pos h3] at hq
          subst hq
          clear h3
          go_wp2_with (first
            | (go_at_call 11; with_reducible refine KT.out.mono ?_; rintro e w7 ⟨A7, m7, c7, rfl, hm7, hc7, hR7, hb7⟩; have HM7 := Lib.hid hm7; have HR7 := Lib.hid hR7; have HB7 := Lib.hid hb7; clear hm7 hR7 hb7)
            | (go_at_call 34; refine (K8.out w7 A7 m7 c7 HB7.out HM7.out HR7.out hc7).mono ?_; rintro e w8 ⟨rfl, n8, rfl⟩))
          go_ret2
          exact ⟨rfl, HB1.out.trans ((below_drN HB7.out n8).mono HB1.out.size)⟩
      · subst h1
        have b1 : (r != r) = false := by simp
        have b2 : (p != peer) = true := by simpa using h2
        rw [if_pos (.inr h2)]
        clear h2
        go_enter Try.func16, Try.ntmps16
        go_wp2_with (go_at_call 14; with_reducible refine KR.out.mono ?_; rintro e1 w1 ⟨rfl, hb1⟩; have HB1 := Lib.hid hb1; clear hb1)
        go_ret2
        exact ⟨rfl, HB1.out⟩
    · have b1 : (r != relay) = true := by simpa using h1
      rw [if_pos (.inl h1)]
      clear h1
      go_enter Try.func16, Try.ntmps16
      go_wp2_with (go_at_call 14; with_reducible refine KR.out.mono ?_; rintro e1 w1 ⟨rfl, hb1⟩; have HB1 := Lib.hid hb1; clear hb1)
      go_ret2
      exact ⟨rfl, HB1.out⟩
  · rw [readR_bad hno] at KR
    rw [checkV_bad hv]
    have KR := Lib.hid KR
    clear hv hno hr hb h hn hf
    go_enter Try.func16, Try.ntmps16
    go_wp2_with (go_at_call 14; with_reducible refine KR.out.mono ?_; rintro e1 w1 ⟨rfl, hb1⟩; have HB1 := Lib.hid hb1; clear hb1)
    go_ret2
    exact ⟨rfl, HB1.out⟩
theorem at_W {w : World} {A : Option Addr} {n : Nat} {L : List WordV} (h : dWord.C w A n L) (i : Nat) (x : WordV) (hx : L[i]? = some x) (hn : n = L.length) : ∃ ad, A = some ad ∧ w.cell? (ad.add (i * 3)) = some (.int .i64 x.1) ∧ w.cell? ⟨(ad.add (i * 3)).block, (ad.add (i * 3)).off + 1, none⟩ = some (.int .i64 x.2.1) ∧ w.cell? ⟨(ad.add (i * 3)).block, (ad.add (i * 3)).off + 2, none⟩ = some (.int .i64 x.2.2) := by
  have hi := (List.getElem?_eq_some_iff.1 hx).1
  obtain ⟨ad, c, e, _, hK, hc⟩ := Kd.C_get h ((0 : Int), (0 : Int), (0 : Int)) i (by omega) (by omega)
  have hg : L.getD (i : Int).toNat ((0 : Int), (0 : Int), (0 : Int)) = x := by rw [Int.toNat_natCast, List.getD_eq_getElem?_getD, hx]; rfl
  rw [hg] at hK
  obtain ⟨_, _, rfl, rfl, _, _, rfl, rfl, rfl⟩ := hK
  exact ⟨ad, e, hc 0 _ rfl, by rw [← add_field _ _ 1 (by omega)]; exact hc 1 _ rfl, by rw [← add_field _ _ 2 (by omega)]; exact hc 2 _ rfl⟩
theorem cell_on {w wx : World} {a : Addr} {v : Value} (hb : Below w.heap.size w wx) (h : w.cell? a = some v) : wx.cell? a = some v := (hb.cell (World.block_lt_of_cell? _ _ h)).trans h
/-- The three numbers in a box of their own. -/
def Box3 (V : World) (g : Nat) (r p u : Int) : Prop := V.heap[g]? = some (.cells #[.int .i64 r, .int .i64 p, .int .i64 u] 24 (0, 0))
theorem Box3.cells {V : World} {g : Nat} {r p u : Int} (h : Box3 V g r p u) : V.cell? ⟨g, 0, none⟩ = some (.int .i64 r) ∧ V.cell? ⟨g, 1, none⟩ = some (.int .i64 p) ∧ V.cell? ⟨g, 2, none⟩ = some (.int .i64 u) :=
  ⟨cell_cellsN h 0 (by simp), cell_cellsN h 1 (by simp), cell_cellsN h 2 (by simp)⟩
theorem Box3.lt {V : World} {g : Nat} {r p u : Int} (h : Box3 V g r p u) : g < V.heap.size := (Array.getElem?_eq_some_iff.1 h).1
theorem Box3.step {V V' : World} {g : Nat} {r p u : Int} (h : Box3 V g r p u) (hb : Below V.heap.size V V') : Box3 V' g r p u := (hb.block g h.lt).trans h
theorem two_round {L : List Ent} {r p u : Int} {base g q gx : Nat} {w4 : World} (HM : mayF r p u = true) (h : TwoAt w4 base g L q L (fun k => k = gx)) (hb : base ≤ w4.heap.size) (hx : Box3 w4 gx r p u) : True := trivial
set_option maxRecDepth 100000 in
set_option maxHeartbeats 8000000 in
theorem reads_calls (w : World) (A : Option Addr) (c : Nat) (b : List Int) (r p u : Int) (A2 : Option Addr) (c2 : Nat) (M : List WordV) (hr : Kd.C (Kd.int .u8) w A b.length b) (hc : b.length ≤ c) (hby : Bytes b) (hrm : dWord.C w A2 M.length M) (hcm : M.length ≤ c2) (hlm : M.length ≤ 140737488351232) (hlb : b.length ≤ 140737488351232) :
    Calls Try.prog 3 #[.slice A b.length c, .agg #[.int .i64 r, .int .i64 p, .int .i64 u], .slice A2 M.length c2] w fun e w' => e = .returned (.bool true) ∧ Below w.heap.size w w' := by
  have HA := Lib.hid (fun W => awake_calls W)
  obtain ⟨W, hW⟩ : ∃ W, w.alloc (.cells #[.int .i64 r, .int .i64 p, .int .i64 u] 24) = W := ⟨_, rfl⟩
  have hbW : Below w.heap.size w W := by rw [← hW]; exact (Below.refl _ w).alloc (Nat.le_refl _) _
  have e1 : Box3 W w.heap.size r p u := by rw [← hW]; exact new_cellsN w _ _
  have HE1 := Lib.hid e1
  have HB := Lib.hid hbW
  have HR := Lib.hid hr
  have HBY := Lib.hid hby
  have HRM := Lib.hid hrm
  clear e1 hbW hr hby hrm
  by_cases h1 : 200 < b.length
  · have b0 : decide ((200 : Int) < (b.length : Int)) = true := decide_eq_true (by omega)
    clear h1
    go_enter Try.func3, Try.ntmps3
    go_wp2_with (go_at_call 7; refine (HA.out _).mono ?_; rintro e w1 ⟨rfl, hb1⟩; have HB1 := Lib.hid hb1; clear hb1)
    go_ret
    exact ⟨rfl, HB.out.trans (HB1.out.mono HB.out.size)⟩
  · have b0 : decide ((200 : Int) < (b.length : Int)) = false := decide_eq_false (by omega)
    by_cases h2 : 20 < M.length
    · have b1 : decide ((20 : Int) < (M.length : Int)) = true := decide_eq_true (by omega)
      clear h1 h2
      go_enter Try.func3, Try.ntmps3
      go_wp2_with (go_at_call 7; refine (HA.out _).mono ?_; rintro e w1 ⟨rfl, hb1⟩; have HB1 := Lib.hid hb1; clear hb1)
      go_ret
      exact ⟨rfl, HB.out.trans (HB1.out.mono HB.out.size)⟩
    · have b1 : decide ((20 : Int) < (M.length : Int)) = false := decide_eq_false (by omega)
      have hb200 : b.length ≤ 200 := by omega
      have hm20 : M.length ≤ 20 := by omega
      clear h1 h2
      go_enter Try.func3, Try.ntmps3
      go_upto_region 5 with (go_at_call 7; refine (HA.out _).mono ?_; rintro e w1 ⟨rfl, hb1⟩; have HB1 := Lib.hid hb1; clear hb1)
      have HBW1 := Lib.hid (HB.out.trans (HB1.out.mono HB.out.size))
      have HX1 := Lib.hid (HE1.out.step HB1.out)
      clear hW b0 b1
      go_upto_region 6 with (go_at_call 8; refine (one_new _).mono ?_; rintro e w2 ⟨g, rfl, hn, hb2⟩; have HN := Lib.hid hn; have HB2 := Lib.hid hb2; clear hn hb2)
      obtain ⟨V, hV⟩ : ∃ V, w2.alloc (.cells #[.slice none 0 0] 32) = V := ⟨_, rfl⟩
      have HTV := Lib.hid (show TwoAt V w1.heap.size g [] w2.heap.size [] (fun _ => False) from by rw [← hV]; exact TwoAt.start (HN.out.sub (fun _ h => h.elim)) HB2.out.size)
      have HBV := Lib.hid (show Below w1.heap.size w1 V from by rw [← hV]; exact HB2.out.alloc HB2.out.size _)
      go_wp2
      clear hV
      go_loopw [9] (fun v9 wr => ∃ (i : Nat) (L : List Ent), v9 = .int .i64 i ∧ i ≤ M.length ∧ L.length ≤ i ∧ Hid (TwoAt wr w1.heap.size g L w2.heap.size L (fun _ => False)) ∧ Hid (Below w1.heap.size w1 wr)) (fun v9 _ => M.length - (intOf v9).toNat)
      case atStart => exact ⟨0, [], rfl, Nat.zero_le _, by simp, HTV, HBV⟩
      case round =>
        obtain ⟨i, L, rfl, hi, hLi, HT, HBr⟩ := hrel
        have HWr := Lib.hid (HBW1.out.trans (HBr.out.mono HBW1.out.size))
        by_cases hlt : i < M.length
        · have b0 : decide ((i : Int) < (M.length : Int)) = true := decide_eq_true (by omega)
          have b1 : (i : Int) < (M.length : Int) := by omega
          obtain ⟨⟨xr, xp, xu⟩, hx⟩ : ∃ x, M[i] = x := ⟨_, rfl⟩
          have hxi : M[i]? = some (xr, xp, xu) := by rw [List.getElem?_eq_getElem hlt, hx]
          obtain ⟨ad, rfl, k0, k1, k2⟩ := at_W HRM.out i _ hxi rfl
          have k0 := cell_on HWr.out k0
          have k1 := cell_on HWr.out k1
          have k2 := cell_on HWr.out k2
          dsimp only at k0 k1 k2
          obtain ⟨X, hX⟩ : ∃ X, wr.alloc (.cells #[.int .i64 xr, .int .i64 xp, .int .i64 xu] 24) = X := ⟨_, rfl⟩
          have hbX : Below wr.heap.size wr X := by rw [← hX]; exact (Below.refl _ wr).alloc (Nat.le_refl _) _
          have HEX := Lib.hid (show Box3 X wr.heap.size xr xp xu from by rw [← hX]; exact new_cellsN wr _ _)
          have hsX : X.heap.size = wr.heap.size + 1 := by rw [← hX]; simp
          have HTX := Lib.hid (show TwoAt X w1.heap.size g L w2.heap.size L (fun k => k = wr.heap.size) from (HT.out.step hbX).sub (fun k hk => by subst hk; exact .inr ⟨Nat.le_refl _, by omega⟩))
          have HBX := Lib.hid (HBr.out.trans (hbX.mono HBr.out.size))
          obtain ⟨t0, t1, t2⟩ := HEX.out.cells
          clear hx hxi hbX hsX
          by_cases hm : mayF xr xp xu = true
          · have KM := fun (W : World) => rmay_calls W xr xp xu
            rw [hm] at KM
            have KM := Lib.hid KM
            have HM := Lib.hid hm
            clear hm
            go_upto_region 12 with (go_at_call 9; refine (KM.out _).mono ?_; rintro e w4 ⟨rfl, hd4⟩; have HD4 := Lib.hid hd4.below; clear hd4)
            clear hX k0 k1 k2 t0 t1 t2
            have HB4 := Lib.hid (HBX.out.trans (HD4.out.mono HBX.out.size))
            have HT4 := Lib.hid (HTX.out.step' HD4.out)
            have HE4 := Lib.hid (HEX.out.step HD4.out)
            have hs4 := HB4.out.size
            obtain ⟨d0, d1, d2⟩ := HE4.out.cells
            have hbd : Below w4.heap.size w4 w4.drew := ⟨rfl, rfl, rfl, Nat.le_refl _, fun _ _ => rfl⟩
            obtain ⟨N, hN⟩ : ∃ N, (mintF L xr (textL [xr, xp, xu])).2.2 = N := ⟨_, rfl⟩
            have hNl : N.length ≤ i + 1 := by rw [← hN]; have := mintF_length L xr (textL [xr, xp, xu]); omega
            have HNN := Lib.hid hN
            have KT := Lib.hid (fun W => rtext_n W xr xp xu HM.out)
            have htl : (textL [xr, xp, xu]).length ≤ 30 := text3_len xr xp xu
            have HTL := Lib.hid htl
            have K1 := Lib.hid (fun (W : World) (A7 : Option Addr) (m7 c7 : Nat) (hb7 : Below w4.heap.size w4 W) (hm7 : m7 = (textL [xr, xp, xu]).length) (hC7 : Kd.C (Kd.int .u8) W A7 m7 (textL [xr, xp, xu])) (hc7 : m7 ≤ c7) =>
              two_mint_n W w1.heap.size g w2.heap.size L L _ xr A7 m7 c7 (textL [xr, xp, xu]) hm7 (HT4.out.step' hb7) (Nat.le_trans hs4 hb7.size) hC7 hc7 (text_fine HM.out) (by omega) N HNN.out)
            clear hN htl
            go_region_held3 (fun w' => w'.cell? ⟨wr.heap.size, 0, none⟩ = some (.int .i64 xr) ∧ w'.cell? ⟨wr.heap.size, 1, none⟩ = some (.int .i64 xp) ∧ w'.cell? ⟨wr.heap.size, 2, none⟩ = some (.int .i64 xu)) (first | exact ⟨d0, d1, d2⟩ | exact f7 | exact f8 | go_keep)
              (first
                | (go_at_call 11; refine (KT.out _).mono ?_; rintro e w7 ⟨A7, m7, c7, rfl, hm7, hc7, hC7, hb7⟩; have HB7 := Lib.hid (hbd.trans hb7); have f7 := (HE4.out.step HB7.out).cells; have HC7 := Lib.hid hC7; have HM7 := Lib.hid hm7; clear hb7 hC7 hm7)
                | (go_at_call 10; refine (K1.out w7 A7 m7 c7 HB7.out HM7.out HC7.out hc7).mono ?_; rintro e w8 ⟨⟨v8, rfl⟩, hT8, hb8, hk8⟩; have HE8 := Lib.hid (show Box3 w8 wr.heap.size xr xp xu from (hk8 _ rfl).trans (HE4.out.step HB7.out)); have f8 := Box3.cells HE8.out; have HT8 := Lib.hid hT8; have HB8 := Lib.hid ((HB4.out.trans (HB7.out.mono hs4)).trans hb8); clear hT8 hb8 hk8))
            go_wp2_with fail
            clear d0 d1 d2 f7 f8
            obtain ⟨d0, d1, d2⟩ := HE8.out.cells
            have hs8 := HB8.out.size
            have hbe : Below w8.heap.size w8 w8.drew := ⟨rfl, rfl, rfl, Nat.le_refl _, fun _ _ => rfl⟩
            have K2 := Lib.hid (fun (W : World) (A9 : Option Addr) (m9 c9 : Nat) (hb9 : Below w8.heap.size w8 W) (hm9 : m9 = (textL [xr, xp, xu]).length) (hC9 : Kd.C (Kd.int .u8) W A9 m9 (textL [xr, xp, xu])) (hc9 : m9 ≤ c9) =>
              two_rmint_n W w1.heap.size g w2.heap.size N L _ xr A9 m9 c9 (textL [xr, xp, xu]) hm9 (HT8.out.step' hb9) (Nat.le_trans hs8 hb9.size) hC9 hc9 (by have := HTL.out; omega) (by omega) HT4.out.fine N HNN.out)
            go_region_held3 (fun w' => w'.cell? ⟨wr.heap.size, 0, none⟩ = some (.int .i64 xr) ∧ w'.cell? ⟨wr.heap.size, 1, none⟩ = some (.int .i64 xp) ∧ w'.cell? ⟨wr.heap.size, 2, none⟩ = some (.int .i64 xu)) (first | exact ⟨d0, d1, d2⟩ | exact f9 | exact f10 | go_keep)
              (first
                | (go_at_call 11; refine (KT.out _).mono ?_; rintro e w9 ⟨A9, m9, c9, rfl, hm9, hc9, hC9, hb9⟩; have HB9 := Lib.hid (hbe.trans hb9); have f9 := (HE8.out.step HB9.out).cells; have HC9 := Lib.hid hC9; have HM9 := Lib.hid hm9; clear hb9 hC9 hm9)
                | (go_at_call 12; refine (K2.out w9 A9 m9 c9 HB9.out HM9.out HC9.out hc9).mono ?_; rintro e w10 ⟨⟨v10, rfl⟩, hT10, hb10, hk10⟩; have HE10 := Lib.hid (show Box3 w10 wr.heap.size xr xp xu from (hk10 _ rfl).trans (HE8.out.step HB9.out)); have f10 := Box3.cells HE10.out; have HT10 := Lib.hid hT10; have HB10 := Lib.hid ((HB8.out.trans (HB9.out.mono hs8)).trans hb10); clear hT10 hb10 hk10))
            clear d0 d1 d2 f9 f10
            go_wp2_with fail
            go_roundw
            case rel => exact ⟨i + 1, N, by go_num, by omega, by omega, Lib.hid (HT10.out.sub (fun _ h => h.elim)), HB10⟩
            case measure => simp [intOf]; omega
          · have hmf : mayF xr xp xu = false := by simpa using hm
            have KM := fun (W : World) => rmay_calls W xr xp xu
            rw [hmf] at KM
            have KM := Lib.hid KM
            clear hm hmf
            go_wp2_with (go_at_call 9; refine (KM.out _).mono ?_; rintro e w4 ⟨rfl, hd4⟩; have HD4 := Lib.hid hd4.below; clear hd4)
            go_roundw
            case rel => exact ⟨i + 1, L, by go_num, by omega, by omega, Lib.hid ((HTX.out.step' HD4.out).sub (fun _ h => h.elim)), Lib.hid (HBX.out.trans (HD4.out.mono HBX.out.size))⟩
            case measure => simp [intOf]; omega
        · have b0 : decide ((i : Int) < (M.length : Int)) = false := decide_eq_false (by omega)
          obtain ⟨n, hn⟩ : ∃ n, b.length = n := ⟨_, rfl⟩
          have HNB := Lib.hid hn
          have HRn := Lib.hid (show ∀ V, Below wr.heap.size wr V → Kd.C (Kd.int .u8) V A n b from fun V hV => by rw [← hn]; exact Kd.C_below HR.out (HWr.out.trans (hV.mono HWr.out.size)))
          have hcn : n ≤ c := by omega
          have hn200 : n ≤ 200 := by omega
          have HXr := Lib.hid (show Box3 wr w.heap.size r p u from HX1.out.step HBr.out)
          obtain ⟨q1, q2, q3, q4, q5, hq⟩ : ∃ q1 q2 q3 q4 q5 : Int, readR b = .tuple #[.int .i64 q1, .int .i64 q2, .int .i64 q3, .int .u64 q4, .int .i64 q5] := ⟨_, _, _, _, _, rfl⟩
          obtain ⟨⟨z1, z2⟩, hz⟩ : ∃ z, checkV L b r p u = z := ⟨_, rfl⟩
          have K1 := fun (V : World) (hV : Below wr.heap.size wr V) => read_calls V A n c b HNB.out.symm (HRn.out V hV) hcn HBY.out (by omega)
          have K2 := fun (V : World) (hV : Below wr.heap.size wr V) => rread_calls V A n c b HNB.out.symm (HRn.out V hV) hcn HBY.out (by omega)
          have K3 := fun (V : World) (hV : Below wr.heap.size wr V) => vcheck_calls V w1.heap.size g L _ A n c b r p u (two_one (HT.out.step' hV)) (by omega) HNB.out.symm (HRn.out V hV) hcn HBY.out (by omega)
          have K4 := fun (V : World) (hV : Below wr.heap.size wr V) => rvcheck_calls V w1.heap.size g w2.heap.size L L _ A n c b r p u (HT.out.step' hV) (by omega) HT.out.fine HNB.out.symm (HRn.out V hV) hcn HBY.out (by omega)
          rw [hq] at K1 K2
          rw [hz] at K3 K4
          dsimp only at K3 K4
          have K1 := Lib.hid K1
          have K2 := Lib.hid K2
          have K3 := Lib.hid K3
          have K4 := Lib.hid K4
          have HREF := Lib.hid (Below.refl wr.heap.size wr)
          rw [hn]
          clear hq hz hn
          go_upto_region 15 with (go_at_call 13; refine (K1.out _ HREF.out).mono ?_; rintro e w3 ⟨rfl, hb3⟩; have HB3 := Lib.hid hb3; clear hb3)
          go_upto_region 16 with (go_at_call 14; refine (K2.out _ HB3.out).mono ?_; rintro e w4 ⟨rfl, hb4⟩; have HB4 := Lib.hid (HB3.out.trans (hb4.mono HB3.out.size)); clear hb4)
          obtain ⟨d0, d1, d2⟩ := (HXr.out.step HB4.out).cells
          go_upto_region 17 with (go_at_call 15; refine (K3.out _ HB4.out).mono ?_; rintro e w5 ⟨rfl, hb5⟩; have HB5 := Lib.hid (HB4.out.trans (hb5.mono HB4.out.size)); clear hb5)
          clear d0 d1 d2
          obtain ⟨d0, d1, d2⟩ := (HXr.out.step HB5.out).cells
          go_upto_region 18 with (go_at_call 16; refine (K4.out _ HB5.out).mono ?_; rintro e w6 ⟨rfl, hb6⟩; have HB6 := Lib.hid (HB5.out.trans (hb6.mono HB5.out.size)); clear hb6)
          clear d0 d1 d2
          have s1 : (q1 == q1) = true := by simp
          have s2 : (q2 == q2) = true := by simp
          have s3 : (q3 == q3) = true := by simp
          have s4 : (q4 == q4) = true := by simp
          have s5 : (q5 == q5) = true := by simp
          have s6 : (z1 == z1) = true := by simp
          have s7 : (z2 == z2) = true := by simp
          go_wp2
          go_ret
          exact ⟨rfl, HWr.out.trans (HB6.out.mono HWr.out.size)⟩
theorem bytes_wf {l : List Int} (h : ∀ x ∈ l, (Lit.int .u8 x).wf = true) : Bytes l := fun x hx => wf_bd (h x hx) (by decide) (by decide)
theorem reads_row (A : Option Addr) (c : Nat) (b : List Int) (cs : Array Value) (x : WordV) (A2 : Option Addr) (c2 : Nat) (M : List WordV) (w : World) (hr : Kd.C (Kd.int .u8) w A b.length b) (hc : b.length ≤ c) (hlb : b.length * 1 ≤ 140737488351232) (hw : ∀ x ∈ b, (Lit.int .u8 x).wf = true) (hr1 : dWord.K w x (Value.agg cs).cells.toList) (hw1 : okWord x) (hrm : dWord.C w A2 M.length M) (hcm : M.length ≤ c2) (hlm : M.length * 24 ≤ 140737488351232) (hok : ∀ x ∈ M, okWord x) :
    Calls Try.prog 3 #[.slice A b.length c, .agg cs, .slice A2 M.length c2] w fun e w' => e = .returned (.bool true) ∧ Below w.heap.size w w' := by
  have e1 : cs = wv x := word_cells hr1
  subst e1
  exact reads_calls w A c b x.1 x.2.1 x.2.2 A2 c2 M hr hc (bytes_wf hw) hrm hcm (by omega) (by omega)
theorem opens_Words : Op.Opens Try.prog 25 (Kd.slice 24 dWord) (fun l => ∀ x ∈ l, okWord x) :=
  Op.opens_mono (Op.opens_slice Try.underlying25 (by kernel_rfl) opens_Word) (fun _ h => h.2)
end Go.Proofs.Ytmidmdbhbhjcdaa.By
