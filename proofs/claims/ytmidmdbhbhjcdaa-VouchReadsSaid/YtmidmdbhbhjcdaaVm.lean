/-
  vouch.Make and vouch.Check: at one notary, whatever it holds. Condition: bytes are bytes; some bounds on lengths.
-/
import Derived.Test.YtmidmdbhbhjcdaaVs
import Derived.Test.YtmidmdbhbhjcdaaNb
namespace Go.Proofs.Ytmidmdbhbhjcdaa.By
open Go.RowKit Go.Shelf Go.Proofs.Ytmidmdbhbhjcdaa.Sp Go.Proofs.Ytmidmdbhbhjcdaa.Nt Go.Proofs.Ytmidmdbhbhjcdaa.H Go.Proofs.Ytmidmdbhbhjcdaa.Uv Go.Proofs.Ytmidmdbhbhjcdaa.Fr Go.Proofs.YtmidmdbhbhjcdaaW.PrintWords Go.Proofs.YtmidmdbhbhjcdaaW.PrintLast Go.Proofs.YtmidmdbhbhjcdaaW.PrintMore
set_option linter.unusedVariables false
set_option linter.unusedSimpArgs false
def makeF (L : List Ent) (r p u : Int) : List Int × Int × List Ent :=
  if mayF r p u = true then (vouchI r p u (mintF L r (textL [r, p, u])).1, 0, (mintF L r (textL [r, p, u])).2.2) else ([], 1, L)
noncomputable def checkV (L : List Ent) (b : List Int) (relay peer now : Int) : Int × Int :=
  if (readV b).2.2.2.2 ≠ 0 then (0, (readV b).2.2.2.2)
  else if (readV b).1 ≠ relay ∨ (readV b).2.1 ≠ peer then (0, 7)
  else if checkF L (readV b).1 (textL [(readV b).1, (readV b).2.1, (readV b).2.2.1]) (readV b).2.2.2.1 ≠ 0 then (0, 12)
  else if (readV b).2.2.1 ≤ now then (0, 11) else ((readV b).2.2.1, 0)
theorem text_fine {r p u : Int} (h : mayF r p u = true) : Nt.fine (r, textL [r, p, u]) := by
  have := (mayF_iff r p u).1 h
  have := text3_len r p u
  exact ⟨⟨by dsimp only; omega, by dsimp only; omega⟩, textL_bytes (fun x hx => (may_nums h x hx).1), by dsimp only; omega⟩
theorem mint_may {L : List Ent} {r : Int} {t : List Int} (h1 : 1 ≤ r) (h2 : r ≤ 2147483647) : (mintF L r t).2.1 = 0 ∧ 1 ≤ (mintF L r t).1 ∧ (mintF L r t).1 ≤ L.length + 1 := by
  unfold mintF
  rw [if_neg (by omega)]
  split
  · rename_i h
    have := List.idxOf_lt_length_iff.2 h
    exact ⟨rfl, by dsimp only; omega, by dsimp only; omega⟩
  · exact ⟨rfl, by dsimp only; omega, by dsimp only; omega⟩
theorem ints_C (w : World) (r p u : Int) : (Kd.int .i64).C (w.alloc (.cells #[.int .i64 r, .int .i64 p, .int .i64 u] 3)) (some ⟨w.heap.size, 0, none⟩) 3 [r, p, u] := Kd.C_of_reads (d := (0 : Int)) (h1 := fun _ => rfl) ⟨rfl, by decide, fun _ => ⟨_, rfl, fun j hj => by
      rw [Addr.add_lit]
      have h := new_cellsN w 3 #[.int .i64 r, .int .i64 p, .int .i64 u]
      match j, hj with
      | 0, _ => exact cell_cellsN h 0 (by simp)
      | 1, _ => exact cell_cellsN h 1 (by simp)
      | 2, _ => exact cell_cellsN h 2 (by simp)⟩⟩
/-- The text of three numbers that were just laid into a row. -/
theorem text_lit (w : World) (r p u : Int) (h : mayF r p u = true) :
    Calls Try.prog 29 #[.slice (some ⟨w.heap.size, 0, none⟩) 3 3] (w.alloc (.cells #[.int .i64 r, .int .i64 p, .int .i64 u] 3)) fun e w' => ∃ A m c, e = .returned (.slice A m c) ∧ m = (textL [r, p, u]).length ∧ m ≤ c ∧ (Kd.int .u8).R 5 w' w.heap.size (fun k => w.heap.size ≤ k ∧ k < w'.heap.size) (.slice A m c) (textL [r, p, u]) ∧ Below w.heap.size w w' := by
  have hb : Below w.heap.size w (w.alloc (.cells #[.int .i64 r, .int .i64 p, .int .i64 u] 3)) := (Below.refl _ _).alloc (Nat.le_refl _) _
  refine (text_calls _ (some ⟨w.heap.size, 0, none⟩) 3 [r, p, u] (ints_C w r p u) (by simp) (may_nums h) (by simp) (by simp)).mono ?_
  rintro e w' ⟨v, rfl, hR, hb'⟩
  obtain ⟨A, c, rfl, hc, hC⟩ := Kd.R_reads hR
  exact ⟨A, _, c, rfl, rfl, hc, R_own (Kd.R_lower hR (by simp)), hb.trans (hb'.mono (by simp))⟩
theorem R_moved {w w1 : World} {base s n : Nat} {A : Option Addr} {m c : Nat} {xs : List Int} (h : (Kd.int .u8).R 5 w base (fun k => s ≤ k ∧ k < n) (.slice A m c) xs) (hk : ∀ k, s ≤ k → k < n → w1.heap[k]? = w.heap[k]?) : (Kd.int .u8).R 5 w1 base (fun k => s ≤ k ∧ k < n) (.slice A m c) xs := Kd.R_step h (fun k h1 _ => hk k h1.1 h1.2)
theorem R_C {w : World} {base : Nat} {ok : Nat → Prop} {A : Option Addr} {m c : Nat} {xs : List Int} (h : (Kd.int .u8).R 5 w base ok (.slice A m c) xs) : (Kd.int .u8).C w A m xs ∧ m = xs.length ∧ m ≤ c := by
  obtain ⟨A', c', e, h1, h2⟩ := Kd.R_reads h
  injection e with e1 e2 e3
  subst e1 e2 e3
  exact ⟨h2, rfl, h1⟩
theorem drawn_size {w w' : World} (h : Drawn0 w w') : w'.heap.size = w.heap.size := by
  obtain ⟨n, rfl⟩ := h.out
  rfl
set_option maxRecDepth 100000 in
set_option maxHeartbeats 2000000 in
theorem make_no (w : World) (g : Nat) (r p u : Int) (h : ¬ mayF r p u = true) :
    Calls Try.prog 17 #[.pointer (some ⟨g, 0, none⟩), .int .i64 r, .int .i64 p, .int .i64 u] w fun e w' => e = .returned (.tuple #[.slice none 0 0, .int .i64 1]) ∧ Drawn0 w w' := by
  have hmf : mayF r p u = false := by simpa using h
  have KM := may_calls w r p u
  rw [hmf] at KM
  have KM := Lib.hid KM
  clear h hmf
  go_enter Try.func17, Try.ntmps17
  go_wp2_with (go_at_call 27; with_reducible refine KM.out.mono ?_; rintro e w6 ⟨rfl, hd6⟩; have HD := Lib.hid hd6; clear hd6)
  go_ret2
  exact ⟨rfl, HD.out⟩
set_option maxRecDepth 100000 in
set_option maxHeartbeats 2000000 in
theorem make_yes (w : World) (base g : Nat) (L : List Ent) (av : Nat → Prop) (r p u : Int) (h : OneAt w base g L av) (hb : base ≤ w.heap.size) (hL : L.length ≤ 100000) (hm : mayF r p u = true) :
    Calls Try.prog 17 #[.pointer (some ⟨g, 0, none⟩), .int .i64 r, .int .i64 p, .int .i64 u] w fun e w' => ∃ v s, e = .returned (.tuple #[v, .int .i64 0]) ∧ (Kd.int .u8).R 5 w' s (fun k => s ≤ k ∧ k < w'.heap.size) v (vouchI r p u (mintF L r (textL [r, p, u])).1) ∧ w.heap.size ≤ s ∧ OneAt w' base g (mintF L r (textL [r, p, u])).2.2 (fun k => av k ∨ (s ≤ k ∧ k < w'.heap.size)) ∧ Below base w w' ∧ ∀ b, av b → w'.heap[b]? = w.heap[b]? := by
  have KM := may_calls w r p u
  rw [hm] at KM
  have KM := Lib.hid KM
  have HM := Lib.hid hm
  have hmm := (mayF_iff r p u).1 hm
  obtain ⟨⟨tag, e, L'⟩, hmint⟩ : ∃ q, mintF L r (textL [r, p, u]) = q := ⟨_, rfl⟩
  have hmy := mint_may (L := L) (t := textL [r, p, u]) hmm.1 hmm.2.1
  rw [hmint] at hmy ⊢
  dsimp only at hmy ⊢
  obtain ⟨rfl, ht1, ht2⟩ := hmy
  have hav : ∀ k, av k → k < w.heap.size := fun k hk => by obtain ⟨_, _, _, h3⟩ := h; exact (h3 k hk).1
  have H := Lib.hid h
  have HAV := Lib.hid hav
  have HMI := Lib.hid hmint
  have htl := text3_len r p u
  clear h hm hmm hmint hav
  go_enter Try.func17, Try.ntmps17
  go_upto_region 3 with (go_at_call 27; with_reducible refine KM.out.mono ?_; rintro e w6 ⟨rfl, hd6⟩; have HB6 := Lib.hid hd6.below; have HS6 := Lib.hid (drawn_size hd6); clear hd6)
  have KT := Lib.hid (text_lit w6 r p u HM.out)
  go_upto_region 4 with (go_at_call 29; with_reducible refine KT.out.mono ?_; rintro e w7 ⟨A7, m7, c7, rfl, hm7, hc7, hR7, hb7⟩; have HM7 := Lib.hid hm7; have HR7 := Lib.hid hR7; have HB67 := Lib.hid hb7; clear hm7 hR7 hb7)
  have HB7 := Lib.hid (show Below w.heap.size w w7 from HB6.out.trans (by rw [← HS6.out]; exact HB67.out))
  have H7 := Lib.hid (H.out.step HB7.out)
  have K8 := Lib.hid (one_mint_n w7 base g L _ r A7 m7 c7 (textL [r, p, u]) HM7.out H7.out (Nat.le_trans hb HB7.out.size) (R_C HR7.out).1 hc7 (text_fine HM.out) (by omega))
  rw [HMI.out] at K8
  dsimp only at K8
  have hR7s := HR7.out
  rw [HS6.out] at hR7s
  have HR7s := Lib.hid hR7s
  clear hR7s
  go_upto_region 7 with (go_at_call 10; with_reducible refine K8.out.mono ?_; rintro e w8 ⟨rfl, h8, hb8, hk8⟩; have H8 := Lib.hid h8; have HB8 := Lib.hid hb8; have HK8 := Lib.hid hk8; clear h8 hb8 hk8)
  have HR8 := Lib.hid (R_moved HR7s.out (fun k h1 h2 => HK8.out k (.inr ⟨h1, h2⟩)))
  have K9 := Lib.hid (show Calls Try.prog 35 #[.slice A7 m7 c7] w8 fun e w' => ∃ v0, e = .returned (.tuple #[v0, .int .i64 0]) ∧ (Kd.int .u8).R 5 w' w8.heap.size (fun _ => True) v0 (frameI (textL [r, p, u])) ∧ Below w8.heap.size w8 w' from by
    have h1 := R_C HR8.out
    have h2 := h1.1
    have h3 := hc7
    rw [HM7.out] at h2 h3 ⊢
    exact fput_calls w8 A7 c7 (textL [r, p, u]) h2 h3 (by omega))
  go_upto_region 8 with (go_at_call 35; with_reducible refine K9.out.mono ?_; rintro e w9 ⟨v9, rfl, hR9, hb9⟩; have HR9 := Lib.hid hR9; have HB9 := Lib.hid hb9; clear hR9 hb9)
  have K10 := Lib.hid (uput_calls w9 tag (by omega) (by omega))
  obtain ⟨A9, c9, hv9, _⟩ := Kd.R_reads HR9.out
  obtain ⟨m9, hm9⟩ : ∃ m, (frameI (textL [r, p, u])).length = m := ⟨_, rfl⟩
  obtain ⟨mt, hmt⟩ : ∃ m, (putI tag).length = m := ⟨_, rfl⟩
  have hmt0 : 0 < mt := by rw [← hmt]; exact putI_pos (by omega)
  have hmt9 : mt ≤ 9 := by rw [← hmt]; exact putI_len_le tag
  have hm9l : m9 ≤ 40 := by rw [← hm9]; unfold frameI; rw [List.length_append]; have := putI_len_le ((textL [r, p, u]).length : Int); omega
  rw [hm9] at hv9
  subst hv9
  have HM9 := Lib.hid hm9
  have HMT := Lib.hid hmt
  clear hm9 hmt
  go_wp2_with (first
    | (go_at_call 36; with_reducible refine K10.out.mono ?_; rintro e w10 ⟨v10, rfl, hR10, hb10⟩; obtain ⟨A10, c10, hv10, hc10, hC10⟩ := Kd.R_reads hR10; rw [HMT.out] at hv10 hC10; subst hv10; have HC10 := Lib.hid hC10; have HR10 := Lib.hid (Kd.R_below HR9.out hb10); have HB10 := Lib.hid (HB9.out.trans (hb10.mono HB9.out.size)); clear hR10 hb10 hC10)
    | ((with_reducible refine gate_builtin (b := .append) (xs := #[.tmp 39, .tmp 41]) rfl ?_); at_builtin; refine append_apd (w0 := w8) w8.heap.size rfl (.tmp 39) (.tmp 41) rfl (.slice A9 m9 c9) (frameI (textL [r, p, u])) (putI tag) A10 mt c10 rfl rfl (.inl HR10.out) HC10.out hmt0 HB10.out HB10.out.size (by have := HM9.out; omega) ?_; intro v11 w11 ho11 hb11; have HO11 := Lib.hid ho11; have HB11 := Lib.hid hb11; clear ho11 hb11))
  go_ret2
  refine ⟨v11, w8.heap.size, rfl, R_own HO11.out, Nat.le_trans HB7.out.size HB8.out.size, (H8.out.step HB11.out).sub ?_, ?_, ?_⟩
  · rintro k (hk | hk)
    · exact .inl (.inl hk)
    · exact .inr hk
  · exact (HB7.out.mono hb).trans (HB8.out.trans (HB11.out.mono (Nat.le_trans hb (Nat.le_trans HB7.out.size HB8.out.size))))
  · intro b hb'
    have h1 := HAV.out b hb'
    have h2 := HB7.out.size
    have h3 := HB8.out.size
    exact (HB11.out.block b (by omega)).trans ((HK8.out b (.inl hb')).trans (HB7.out.block b h1))
theorem make_calls (w : World) (base g : Nat) (L : List Ent) (av : Nat → Prop) (r p u : Int) (h : OneAt w base g L av) (hb : base ≤ w.heap.size) (hL : L.length ≤ 100000) :
    Calls Try.prog 17 #[.pointer (some ⟨g, 0, none⟩), .int .i64 r, .int .i64 p, .int .i64 u] w fun e w' => ∃ v s, e = .returned (.tuple #[v, .int .i64 (makeF L r p u).2.1]) ∧ (Kd.int .u8).R 5 w' s (fun k => s ≤ k ∧ k < w'.heap.size) v (makeF L r p u).1 ∧ w.heap.size ≤ s ∧ OneAt w' base g (makeF L r p u).2.2 (fun k => av k ∨ (s ≤ k ∧ k < w'.heap.size)) ∧ Below base w w' ∧ ∀ b, av b → w'.heap[b]? = w.heap[b]? := by
  unfold makeF
  by_cases hm : mayF r p u = true
  · rw [if_pos hm]
    exact make_yes w base g L av r p u h hb hL hm
  · rw [if_neg hm]
    refine (make_no w g r p u hm).mono ?_
    rintro e w' ⟨rfl, hd⟩
    have hbl := hd.below
    refine ⟨_, w.heap.size, rfl, R_own (Kd.R_nil _ _ _ _ _), Nat.le_refl _, h.step hbl, hbl.mono hb, fun b hb' => hbl.block b ?_⟩
    obtain ⟨_, _, _, h3⟩ := h
    exact (h3 b hb').1
theorem checkV_bad {L : List Ent} {b : List Int} {relay peer now : Int} (h : readV b = (0, 0, 0, 0, 3)) : checkV L b relay peer now = (0, 3) := by unfold checkV; rw [h]; rfl
theorem checkV_good {L : List Ent} {b : List Int} {relay peer now r p u tag : Int} (h : readV b = (r, p, u, tag, 0)) : checkV L b relay peer now = if r ≠ relay ∨ p ≠ peer then (0, 7) else if checkF L r (textL [r, p, u]) tag ≠ 0 then (0, 12) else if u ≤ now then (0, 11) else (u, 0) := by unfold checkV; rw [h]; rfl
set_option maxRecDepth 100000 in
set_option maxHeartbeats 2000000 in
theorem vcheck_calls (w : World) (base g : Nat) (L : List Ent) (av : Nat → Prop) (A : Option Addr) (n c : Nat) (b : List Int) (relay peer now : Int) (h : OneAt w base g L av) (hL : L.length ≤ 100000)
    (hn : n = b.length) (hr : Kd.C (Kd.int .u8) w A n b) (hc : n ≤ c) (hb : Bytes b) (hl : n ≤ 1000000) :
    Calls Try.prog 15 #[.pointer (some ⟨g, 0, none⟩), .slice A n c, .int .i64 relay, .int .i64 peer, .int .i64 now] w fun e w' => e = .returned (.tuple #[.int .i64 (checkV L b relay peer now).1, .int .i64 (checkV L b relay peer now).2]) ∧ Below w.heap.size w w' := by
  have KR := read_calls w A n c b hn hr hc hb hl
  rcases readV_cases b with ⟨r, p, u, tag, hg, hv⟩ | ⟨hno, hv⟩
  · rw [readR_good hg] at KR
    rw [checkV_good hv]
    have htag := hg.2.1
    have htag2 := hg.2.2.1
    have HM := Lib.hid hg.1
    have KR := Lib.hid KR
    have H := Lib.hid h
    clear hv hg hr hb h hn
    by_cases h1 : r = relay
    · by_cases h2 : p = peer
      · subst h1 h2
        have b1 : (r != r) = false := by simp
        have b2 : (p != p) = false := by simp
        rw [if_neg (by simp)]
        obtain ⟨cf, hcf⟩ : ∃ q, checkF L r (textL [r, p, u]) tag = q := ⟨_, rfl⟩
        rw [hcf]
        have HCF := Lib.hid hcf
        obtain ⟨q, hq⟩ : ∃ q : Int × Int, (if cf ≠ 0 then (0, 12) else if u ≤ now then (0, 11) else (u, 0)) = q := ⟨_, rfl⟩
        rw [hq]
        have HQ := Lib.hid hq
        clear hcf hq
        go_enter Try.func15, Try.ntmps15
        go_upto_region 6 with (go_at_call 13; with_reducible refine KR.out.mono ?_; rintro e1 w1 ⟨rfl, hb1⟩; have HB1 := Lib.hid hb1; clear hb1)
        have KT := Lib.hid (text_lit w1 r p u HM.out)
        have K8 := Lib.hid (fun (W : World) (A7 : Option Addr) (m7 c7 : Nat) (hb7 : Below w1.heap.size w1 W) (hm7 : m7 = (textL [r, p, u]).length) (hC7 : Kd.C (Kd.int .u8) W A7 m7 (textL [r, p, u])) (hc7 : m7 ≤ c7) =>
          one_check_n W base g L _ r A7 m7 c7 (textL [r, p, u]) tag hm7 ((H.out.step HB1.out).step' hb7) hC7 hc7 (text_fine HM.out) (by omega) ⟨htag, by omega⟩)
        rw [HCF.out] at K8
        by_cases h3 : cf = 0
        · subst h3
          have b3 : ((0 : Int) != 0) = false := rfl
          by_cases h4 : u ≤ now
          · have b4 : decide (u ≤ now) = true := decide_eq_true h4
            have hq := HQ.out
            rw [if_neg (by simp), if_pos h4] at hq
            subst hq
            clear h4
            go_wp2_with (first
              | (go_at_call 29; with_reducible refine KT.out.mono ?_; rintro e w7 ⟨A7, m7, c7, rfl, hm7, hc7, hR7, hb7⟩; have HM7 := Lib.hid hm7; have HR7 := Lib.hid hR7; have HB7 := Lib.hid hb7; clear hm7 hR7 hb7)
              | (go_at_call 33; refine (K8.out w7 A7 m7 c7 HB7.out HM7.out (R_C HR7.out).1 hc7).mono ?_; rintro e w8 ⟨rfl, n8, rfl⟩))
            go_ret2
            exact ⟨rfl, HB1.out.trans ((below_drN HB7.out n8).mono HB1.out.size)⟩
          · have b4 : decide (u ≤ now) = false := decide_eq_false h4
            have hq := HQ.out
            rw [if_neg (by simp), if_neg h4] at hq
            subst hq
            clear h4
            go_wp2_with (first
              | (go_at_call 29; with_reducible refine KT.out.mono ?_; rintro e w7 ⟨A7, m7, c7, rfl, hm7, hc7, hR7, hb7⟩; have HM7 := Lib.hid hm7; have HR7 := Lib.hid hR7; have HB7 := Lib.hid hb7; clear hm7 hR7 hb7)
              | (go_at_call 33; refine (K8.out w7 A7 m7 c7 HB7.out HM7.out (R_C HR7.out).1 hc7).mono ?_; rintro e w8 ⟨rfl, n8, rfl⟩))
            go_ret2
            exact ⟨rfl, HB1.out.trans ((below_drN HB7.out n8).mono HB1.out.size)⟩
        · have b3 : (cf != 0) = true := by simpa using h3
          have hq := HQ.out
          rw [if_pos h3] at hq
          subst hq
          clear h3
          go_wp2_with (first
            | (go_at_call 29; with_reducible refine KT.out.mono ?_; rintro e w7 ⟨A7, m7, c7, rfl, hm7, hc7, hR7, hb7⟩; have HM7 := Lib.hid hm7; have HR7 := Lib.hid hR7; have HB7 := Lib.hid hb7; clear hm7 hR7 hb7)
            | (go_at_call 33; refine (K8.out w7 A7 m7 c7 HB7.out HM7.out (R_C HR7.out).1 hc7).mono ?_; rintro e w8 ⟨rfl, n8, rfl⟩))
          go_ret2
          exact ⟨rfl, HB1.out.trans ((below_drN HB7.out n8).mono HB1.out.size)⟩
      · subst h1
        have b1 : (r != r) = false := by simp
        have b2 : (p != peer) = true := by simpa using h2
        rw [if_pos (.inr h2)]
        clear h2
        go_enter Try.func15, Try.ntmps15
        go_wp2_with (go_at_call 13; with_reducible refine KR.out.mono ?_; rintro e1 w1 ⟨rfl, hb1⟩; have HB1 := Lib.hid hb1; clear hb1)
        go_ret2
        exact ⟨rfl, HB1.out⟩
    · have b1 : (r != relay) = true := by simpa using h1
      rw [if_pos (.inl h1)]
      clear h1
      go_enter Try.func15, Try.ntmps15
      go_wp2_with (go_at_call 13; with_reducible refine KR.out.mono ?_; rintro e1 w1 ⟨rfl, hb1⟩; have HB1 := Lib.hid hb1; clear hb1)
      go_ret2
      exact ⟨rfl, HB1.out⟩
  · rw [readR_bad hno] at KR
    rw [checkV_bad hv]
    have KR := Lib.hid KR
    clear hv hno hr hb h hn
    go_enter Try.func15, Try.ntmps15
    go_wp2_with (go_at_call 13; with_reducible refine KR.out.mono ?_; rintro e1 w1 ⟨rfl, hb1⟩; have HB1 := Lib.hid hb1; clear hb1)
    go_ret2
    exact ⟨rfl, HB1.out⟩
end Go.Proofs.Ytmidmdbhbhjcdaa.By
