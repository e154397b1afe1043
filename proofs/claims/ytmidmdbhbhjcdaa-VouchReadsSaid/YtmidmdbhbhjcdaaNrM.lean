/-
  The reference's notary: Check and Mint: what each answers and what it leaves. Conditions: the entries' texts are bytes, there are at most a million.
-/
import Derived.Test.YtmidmdbhbhjcdaaNr
namespace Go.Proofs.Ytmidmdbhbhjcdaa.Nt
open Go.RowKit Go.Maps Go.Proofs.YtmidmdbhbhjcdaaW.PrintWords Go.Proofs.YtmidmdbhbhjcdaaW.PrintLast Go.Proofs.YtmidmdbhbhjcdaaW.PrintMore
set_option linter.unusedVariables false
set_option linter.unusedSimpArgs false

theorem checkF_hit {L : List Ent} {p : Int} {l : List Int} {i : Nat} (h : L[i]? = some (p, l)) : checkF L p l ((i : Int) + 1) = 0 := by
  have hi := (List.getElem?_eq_some_iff.1 h).1
  unfold checkF
  rw [if_neg (by omega), show ((i : Int) + 1 - 1).toNat = i by omega, h, if_pos rfl]
theorem checkF_miss {L : List Ent} {p : Int} {l : List Int} {tag : Int} (h : ∀ j : Nat, j < L.length → ¬ (tag = (j : Int) + 1 ∧ L[j]? = some (p, l))) : checkF L p l tag = 12 := by
  unfold checkF
  by_cases h1 : tag < 1 ∨ (L.length : Int) < tag
  · rw [if_pos h1]
  · rw [if_neg h1, if_neg]
    intro e
    exact h (tag - 1).toNat (by omega) ⟨by omega, e⟩
theorem getL {L : List Ent} {i : Nat} (h : i < L.length) : L[i]? = some L[i] := List.getElem?_eq_getElem h
theorem RefAt.drawn {w wr : World} {base : Nat} {ok : Nat → Prop} {r : Nat} {L : List Ent} (h : RefAt w base ok r L) (hd : Drawn0 w wr) : RefAt wr base ok r L := h.step (fun k _ hk => hd.below.block k hk)
theorem RefAt.cell {w : World} {base : Nat} {ok : Nat → Prop} {r : Nat} {L : List Ent} (h : RefAt w base ok r L) : ∃ A c, w.cell? ⟨r, 0, none⟩ = some (.slice A L.length c) := by
  obtain ⟨v, h1, _, h4⟩ := h
  obtain ⟨Av, cv, rfl, _, _⟩ := Kd.R_reads h4
  exact ⟨Av, cv, by unfold World.cell?; rw [h1]; simp⟩
theorem drawn_trans {a b c : World} (h : Drawn0 a b) (k : Drawn0 b c) : Drawn0 a c := by
  obtain ⟨n, rfl⟩ := k.out
  exact h.step n
set_option maxRecDepth 100000 in
set_option maxHeartbeats 2000000 in
theorem rcheck_calls (w : World) (base : Nat) (ok : Nat → Prop) (r : Nat) (L : List Ent) (p : Int) (A : Option Addr) (c : Nat) (l : List Int) (tag : Int) (h : RefAt w base ok r L) (hr : Kd.C (Kd.int .u8) w A l.length l) (hc : l.length ≤ c) (hL : L.length ≤ 1000000) (hf : ∀ x ∈ L, fine x) :
    Calls Try.prog 34 #[.pointer (some ⟨r, 0, none⟩), .int .i64 p, .slice A l.length c, .int .u64 tag] w fun e w' => e = .returned (.int .i64 (checkF L p l tag)) ∧ Drawn0 w w' := by
  have H := Lib.hid h
  have HR := Lib.hid hr
  have HF := Lib.hid hf
  clear h hr hf
  obtain ⟨R, hR⟩ : ∃ R, checkF L p l tag = R := ⟨_, rfl⟩
  rw [hR]
  have HE := Lib.hid hR
  clear hR
  go_enter Try.func34, Try.ntmps34
  go_wp2
  go_loopw [9] (fun v9 wr => ∃ i : Nat, v9 = .int .i64 i ∧ i ≤ L.length ∧ Hid (∀ j : Nat, j < i → ¬ (tag = (j : Int) + 1 ∧ L[j]? = some (p, l))) ∧ Drawn0 w wr) (fun v9 _ => L.length - (intOf v9).toNat)
  case atStart => exact ⟨0, rfl, Nat.zero_le _, Lib.hid (fun j hj => by omega), Drawn0.refl w⟩
  case round =>
    obtain ⟨i, rfl, hi, HT, hd⟩ := hrel
    have HI := Lib.hid (H.out.drawn hd)
    obtain ⟨Ac, cc, c0⟩ := HI.out.cell
    by_cases hlt : i < L.length
    · have b0 : decide ((i : Int) < (L.length : Int)) = true := decide_eq_true (by omega)
      have e1 : IntKind.u64.wrap ((i : Int) + 1) = (i : Int) + 1 := IntWalk.u64_in _ (by omega)
      obtain ⟨x, hx⟩ : ∃ x, L[i] = x := ⟨_, rfl⟩
      have hxi : L[i]? = some x := by rw [getL hlt, hx]
      have hxf := HF.out x (by rw [← hx]; exact List.getElem_mem hlt)
      have HX := Lib.hid hxi
      have HS := Lib.hid (is_calls wr base ok r L i x p A c l HI.out hxi (Kd.C_below HR.out hd.below) hc hxf.2.2)
      clear hxf hxi hx
      by_cases ht : (i : Int) + 1 = tag
      · have q1 : ((i : Int) + 1 == tag) = true := by simpa using ht
        have Ht := Lib.hid ht
        clear ht
        by_cases hxp : x = (p, l)
        · have q2 : decide (x = (p, l)) = true := decide_eq_true hxp
          have HP := Lib.hid hxp
          clear hxp
          go_wp2_with (go_at_call 22; refine HS.out.mono ?_; rintro e w1 ⟨rfl, hd1⟩)
          go_ret
          exact ⟨by rw [← HE.out, ← Ht.out, checkF_hit (by rw [HX.out, HP.out])]; rfl, drawn_trans hd hd1⟩
        · have q2 : decide (x = (p, l)) = false := decide_eq_false hxp
          have HP := Lib.hid hxp
          clear hxp
          go_wp2_with (go_at_call 22; refine HS.out.mono ?_; rintro e w1 ⟨rfl, hd1⟩)
          go_roundw
          case rel => exact ⟨i + 1, by go_num, by omega, Lib.hid (fun j hj => by
            by_cases hji : j = i
            · subst hji; rintro ⟨_, h2⟩; rw [HX.out] at h2; exact HP.out (Option.some.inj h2)
            · exact HT.out j (by omega)), drawn_trans hd hd1⟩
          case measure => simp [intOf]; omega
      · have q1 : ((i : Int) + 1 == tag) = false := by simpa using ht
        have Ht := Lib.hid ht
        clear ht
        go_wp2
        go_roundw
        case rel => exact ⟨i + 1, by go_num, by omega, Lib.hid (fun j hj => by
            by_cases hji : j = i
            · subst hji; rintro ⟨h1, _⟩; exact Ht.out h1.symm
            · exact HT.out j (by omega)), hd⟩
        case measure => simp [intOf]; omega
    · have b0 : decide ((i : Int) < (L.length : Int)) = false := decide_eq_false (by omega)
      go_wp2
      go_ret
      exact ⟨by rw [← HE.out, checkF_miss (fun j hj => HT.out j (by omega))]; rfl, hd⟩

/-! ### Mint -/
theorem idxOf_first {L : List Ent} {x : Ent} : ∀ {i : Nat}, L[i]? = some x → (∀ j, j < i → L[j]? ≠ some x) → L.idxOf x = i := by
  induction L with
  | nil => intro i h; simp at h
  | cons y ys ih =>
    intro i h hn
    rw [List.idxOf_cons]
    cases i with
    | zero =>
      have : y = x := by simpa using h
      simp [this]
    | succ i =>
      have hy : y ≠ x := fun e => hn 0 (by omega) (by simp [e])
      have hb : (y == x) = false := by simpa using hy
      rw [hb]
      simp only [cond_false]
      rw [ih (i := i) (by simpa using h) (fun j hj => by have := hn (j + 1) (by omega); simpa using this)]
theorem mintF_old {L : List Ent} {p : Int} {l : List Int} (hp1 : 1 ≤ p) (hp2 : p ≤ 2147483647) {i : Nat} (h : L[i]? = some (p, l)) (hn : ∀ j, j < i → L[j]? ≠ some (p, l)) : mintF L p l = ((i : Int) + 1, 0, L) := by
  unfold mintF
  rw [if_neg (by omega), if_pos (List.mem_of_getElem? h), idxOf_first h hn]
theorem mintF_new {L : List Ent} {p : Int} {l : List Int} (hp1 : 1 ≤ p) (hp2 : p ≤ 2147483647) (hn : ∀ j, j < L.length → L[j]? ≠ some (p, l)) : mintF L p l = ((L.length : Int) + 1, 0, L ++ [(p, l)]) := by
  unfold mintF
  rw [if_neg (by omega), if_neg]
  intro hm
  obtain ⟨j, hj, e⟩ := List.mem_iff_getElem.1 hm
  exact hn j hj (by rw [List.getElem?_eq_getElem hj, e])
def RMid (w wx : World) (base : Nat) (ok : Nat → Prop) (r : Nat) (L : List Ent) (x : Ent) : Prop :=
  ∃ A6 cp6, wx.heap[r]? = some (.cells #[.slice A6 (L.length + 1) cp6] 32 (0, 0)) ∧ dR.R 63 wx base ok (.slice A6 (L.length + 1) cp6) (L ++ [x]) ∧ Below base w wx ∧ Off ok w wx
theorem infoR : (Try.prog.info? 63).map (fun i => (i.zero, i.size, i.bytes)) = some (some (.agg #[.int .i64 0, .slice none 0 0]), 2, 32) := by kernel_rfl
theorem info8 : (Try.prog.info? 5).map (fun i => (i.zero, i.size, i.bytes)) = some (some (.int .u8 0), 1, 1) := by kernel_rfl
theorem R_empty (W : World) (base : Nat) (ok : Nat → Prop) (hb : base ≤ W.heap.size) (ho : ok W.heap.size) : (Kd.int .u8).R 5 (W.alloc (.cells #[] 5)) base ok (.slice (some ⟨W.heap.size, 0, none⟩) 0 0) [] := by
  have h := Boxed2 W 5 #[]
  refine ⟨fun k hk => ?_, [], ⟨rfl, .inr ⟨W.heap.size, 0, #[], rfl, hb, h, by simp [Kd.int, Kd.scalar], by simp, by simp⟩⟩, ⟨rfl, fun j p hj => by simp at hj⟩⟩
  have : W.heap.size = k := by simpa [Value.ownBlock] using hk
  rw [← this]; exact ho

theorem cell_cells1 {w : World} {g t : Nat} {x : Value} (h : w.heap[g]? = some (.cells #[x] t (0, 0))) : w.cell? ⟨g, 0, none⟩ = some x ∧ w.frozen? ⟨g, 0, none⟩ = false := by
  constructor
  · unfold World.cell?; rw [h]; simp
  · unfold World.frozen?; rw [h]; simp
theorem set_cells1 {w : World} {g t : Nat} {x z : Value} (h : w.heap[g]? = some (.cells #[x] t (0, 0))) : (w.setCell ⟨g, 0, none⟩ z).heap[g]? = some (.cells #[z] t (0, 0)) := by
  unfold World.setCell
  show (w.heap.modify g _)[g]? = _
  rw [Array.getElem?_modify, if_pos rfl, h]
  rfl
theorem rmint_arg (w : World) (g : Nat) (p : Int) (A : Option Addr) (n c : Nat) (hp : p < 1 ∨ 2147483647 < p) :
    Calls Try.prog 12 #[.pointer (some ⟨g, 0, none⟩), .int .i64 p, .slice A n c] w fun e w' => e = .returned (.tuple #[.int .u64 0, .int .i64 1]) ∧ w = w' := by
  by_cases h1 : p < 1
  · have g1 : decide (p < 1) = true := decide_eq_true h1
    go_enter Try.func12, Try.ntmps12
    go_wp2
    go_ret2
    exact ⟨rfl, rfl⟩
  · have g1 : decide (p < 1) = false := decide_eq_false h1
    have g2 : decide (2147483647 < p) = true := decide_eq_true (by omega)
    go_enter Try.func12, Try.ntmps12
    go_wp2
    go_ret2
    exact ⟨rfl, rfl⟩
theorem dR_E (q : Nat) (hq : q ∈ (63 : Nat) :: dR.E) : q ≠ 32 := by
  have h : dR.E = [5] := rfl
  rw [h] at hq
  simp only [List.mem_cons, List.not_mem_nil, or_false] at hq
  rcases hq with rfl | rfl <;> decide
theorem add_i (A : Addr) (k : Nat) : True := trivial
set_option maxRecDepth 100000 in
set_option maxHeartbeats 4000000 in
theorem rmint_in (w : World) (base : Nat) (ok : Nat → Prop) (r : Nat) (L : List Ent) (p : Int) (A : Option Addr) (c : Nat) (l : List Int) (h : RefAt w base ok r L) (hfr : ∀ k, w.heap.size ≤ k → ok k) (hb : base ≤ w.heap.size)
    (hp1 : 1 ≤ p) (hp2 : p ≤ 2147483647) (hr : Kd.C (Kd.int .u8) w A l.length l) (hc : l.length ≤ c) (hl : l.length ≤ 1000000) (hL : L.length ≤ 1000000) (hf : ∀ x ∈ L, fine x) :
    Calls Try.prog 12 #[.pointer (some ⟨r, 0, none⟩), .int .i64 p, .slice A l.length c] w fun e w' => e = .returned (.tuple #[.int .u64 (mintF L p l).1, .int .i64 (mintF L p l).2.1]) ∧ RefAt w' base ok r (mintF L p l).2.2 ∧ Below base w w' ∧ Off ok w w' := by
  have H := Lib.hid h
  have HR := Lib.hid hr
  have HF := Lib.hid hf
  have HFR := Lib.hid hfr
  clear h hr hf hfr
  obtain ⟨R, hR⟩ : ∃ R, mintF L p l = R := ⟨_, rfl⟩
  rw [hR]
  have HE := Lib.hid hR
  clear hR
  have g1 : decide (p < 1) = false := decide_eq_false (by omega)
  have g2 : decide (2147483647 < p) = false := decide_eq_false (by omega)
  go_enter Try.func12, Try.ntmps12
  go_wp2
  go_loopw [8] (fun v9 wr => ∃ i : Nat, v9 = .int .i64 i ∧ i ≤ L.length ∧ Hid (∀ j : Nat, j < i → L[j]? ≠ some (p, l)) ∧ Drawn0 w wr) (fun v9 _ => L.length - (intOf v9).toNat)
  case atStart => exact ⟨0, rfl, Nat.zero_le _, Lib.hid (fun j hj => by omega), Drawn0.refl w⟩
  case round =>
    obtain ⟨i, rfl, hi, HT, hd⟩ := hrel
    have HI := Lib.hid (H.out.drawn hd)
    by_cases hlt : i < L.length
    · obtain ⟨Ac, cc, c0⟩ := HI.out.cell
      have b0 : decide ((i : Int) < (L.length : Int)) = true := decide_eq_true (by omega)
      have e1 : IntKind.u64.wrap ((i : Int) + 1) = (i : Int) + 1 := IntWalk.u64_in _ (by omega)
      obtain ⟨x, hx⟩ : ∃ x, L[i] = x := ⟨_, rfl⟩
      have hxi : L[i]? = some x := by rw [getL hlt, hx]
      have hxf := HF.out x (by rw [← hx]; exact List.getElem_mem hlt)
      have HX := Lib.hid hxi
      have HS := Lib.hid (is_calls wr base ok r L i x p A c l HI.out hxi (Kd.C_below HR.out hd.below) hc hxf.2.2)
      clear hxf hxi hx
      by_cases hxp : x = (p, l)
      · have q2 : decide (x = (p, l)) = true := decide_eq_true hxp
        have HP := Lib.hid hxp
        clear hxp
        go_wp2_with (go_at_call 22; refine HS.out.mono ?_; rintro e w1 ⟨rfl, hd1⟩)
        go_ret2
        have hm := mintF_old hp1 hp2 (by rw [HX.out, HP.out]) HT.out
        have hd2 := drawn_trans hd hd1
        rw [← HE.out, hm]
        exact ⟨rfl, H.out.drawn hd2, hd2.below.mono hb, Off.below hd2.below⟩
      · have q2 : decide (x = (p, l)) = false := decide_eq_false hxp
        have HP := Lib.hid hxp
        clear hxp
        go_wp2_with (go_at_call 22; refine HS.out.mono ?_; rintro e w1 ⟨rfl, hd1⟩)
        go_roundw
        case rel => exact ⟨i + 1, by go_num, by omega, Lib.hid (fun j hj => by
            by_cases hji : j = i
            · subst hji; intro h2; rw [HX.out] at h2; exact HP.out (Option.some.inj h2)
            · exact HT.out j (by omega)), drawn_trans hd hd1⟩
        case measure => simp [intOf]; omega
    · obtain ⟨v, h1, ⟨h2, h3⟩, h4⟩ := HI.out
      obtain ⟨Av, cv, rfl, hcv, _⟩ := Kd.R_reads h4
      have c0 := (cell_cells1 h1).1
      have b0 : decide ((i : Int) < (L.length : Int)) = false := decide_eq_false (by omega)
      obtain rfl : i = L.length := by omega
      have hsz : wr.heap.size = w.heap.size := by obtain ⟨n, rfl⟩ := hd.out; rfl
      have HC := Lib.hid (Kd.C_below HR.out hd.below)
      have HB := Lib.hid hd.below
      have hrl : r < wr.heap.size := (Array.getElem?_eq_some_iff.1 h1).1
      have H1 := Lib.hid h1
      have H4 := Lib.hid h4
      clear h1 h4
      obtain ⟨Wl, hWl⟩ : ∃ Wl, (wr.alloc (.cells #[] 5)).drew = Wl := ⟨_, rfl⟩
      have kl : Wl.heap = (wr.alloc (.cells #[] 5)).heap := by rw [← hWl]; rfl
      have hwl : Below wr.heap.size wr Wl := by rw [← hWl]; have h := (Below.refl wr.heap.size wr).alloc (Nat.le_refl _) (.cells #[] 5); exact ⟨h.os, h.tape, h.output, h.size, h.block⟩
      have hbd : Below w.heap.size w Wl := hd.below.trans (hwl.mono (by omega))
      have c0l : Wl.cell? ⟨r, 0, none⟩ = some (.slice Av L.length cv) := (World.cell?_of_block (w := wr) (a := ⟨r, 0, none⟩) (hwl.block r hrl)).trans c0
      have HCl := Lib.hid (Kd.C_below HR.out hbd)
      have HBl := Lib.hid (hbd.mono hb)
      have HRe := Lib.hid (show (Kd.int .u8).R 5 Wl base (fun k => w.heap.size ≤ k) (.slice (some ⟨wr.heap.size, 0, none⟩) 0 0) [] from Kd.R_step (R_empty wr base (fun k => w.heap.size ≤ k) (by omega) (by omega)) (fun k _ _ => by rw [kl]))
      have hsl : Wl.heap.size = wr.heap.size + 1 := by rw [kl]; simp
      have HSZ := Lib.hid hsz
      have HWL := Lib.hid hwl
      have hown : ∀ k, (Value.slice Av L.length cv).ownBlock = some k → k < w.heap.size := fun k hk => by
        obtain ⟨inner, ho⟩ := Kd.R_own H4.out
        have := own_lt ho k hk; omega
      have HOW := Lib.hid hown
      clear hbd hwl hown hsz kl
      go_upto_region 8 with fail
      go_cut [] from 9 (fun wx => RMid w wx base ok r L (p, l))
      case first =>
       go_region_law (first
        | (refine Kd.R_append_rows_step (Kd.int .u8) (Rr := (Kd.int .u8).K Wl) (w0 := w) base (by rfl) (.tmp 38) (.tmp 39) 22 5 (.int .u8 0) 1 rfl Try.underlying22 info8 rfl (by decide) (by decide) (.slice (some ⟨wr.heap.size, 0, none⟩) 0 0) [] l A l.length c (fun k => w.heap.size ≤ k) (fun _ => False) (by simp [Act.eval]) (by simp [Act.eval]) HRe.out HCl.out (fun _ _ h => h) (fun _ hk => hk.elim) (fun k hk => by have := HSZ.out; omega) HBl.out (by have := HSZ.out; omega) (by simp; omega) ?_; intro v5 w5 ho5 hb5 hg5 hat5; rw [List.nil_append] at ho5; obtain ⟨A5, cp5, hv5, _, _⟩ := Kd.R_reads ho5; subst hv5; have hk5 : ∀ k, k < wr.heap.size → w5.heap[k]? = wr.heap[k]? := (fun k hk => (hg5.block k (by omega) (fun e => by simp [Value.ownBlock] at e; omega)).trans (HWL.out.block k hk)); have h5r := (hk5 r hrl).trans H1.out; have c5 := (cell_cells1 h5r).1; have hs5 := hg5.size; have c5l := (World.cell?_of_block (w := w5) (a := ⟨r, 0, none⟩) (((Below.refl w5.heap.size w5).alloc (Nat.le_refl _) (.cells #[.int .i64 p, .slice A5 l.length cp5] 63)).block r (by show r < w5.heap.size; omega))).trans c5)
        | (refine Kd.R_append_step dR (w0 := w) base (by rfl) (.tmp 36) (.tmp 42) 30 63 (.agg #[.int .i64 0, .slice none 0 0]) 32 rfl Try.underlying30 infoR rfl (by decide) (by decide) (.slice Av L.length cv) L (p, l) [.int .i64 p, .slice A5 l.length cp5] ok (fun k => w.heap.size ≤ k) (by simp [Act.eval]) (by simp [Act.eval]) ⟨[_], [_], rfl, rfl, _, rfl, ho5⟩ (fun k hk => ⟨HFR.out k hk, fun e => by have := HOW.out k e.symm; omega⟩) (fun k hk => HFR.out k (by have := HSZ.out; omega)) (Kd.R_step H4.out (fun k _ hk => hk5 k hk)) hb5 (by have := HSZ.out; omega) (by omega) ?_; intro v6 w6 ho6 hb6 hg6 hat6; obtain ⟨A6, cp6, hv6, _, _⟩ := Kd.R_reads ho6; rw [List.length_append, List.length_singleton] at hv6; subst hv6; have h6r := (hg6.block r (by omega) (Kd.R_ne H4.out H1.out (by decide))).trans h5r; have c6 := (cell_cells1 h6r).1; have f6 := (cell_cells1 h6r).2))
       all_goals
        go_wp2_with fail
        go_meet
        case rel =>
          refine ⟨A6, cp6, set_cells1 h6r, Kd.R_set ho6 h6r dR_E 0 _, hb6.setCell (p := ⟨r, 0, none⟩) h3 _, ?_⟩
          refine Off.trans ?_ (Off.set w6 (p := ⟨r, 0, none⟩) h2 _)
          have hsz := HSZ.out
          refine ⟨by have := hg6.size; omega, fun b hb hn => ?_⟩
          have hne : some b ≠ (Value.slice Av L.length cv).ownBlock := fun e => hn (H4.out.1 b e.symm)
          exact (hg6.block b (by omega) hne).trans ((hk5 b (by omega)).trans (by obtain ⟨n, rfl⟩ := hd.out; rfl))
      case rest =>
        obtain ⟨A6, cp6, m1, m2, m3, m4⟩ := hcut
        have d0 := (cell_cells1 m1).1
        have e2 : IntKind.u64.wrap ((L.length : Int) + 1) = (L.length : Int) + 1 := IntWalk.u64_in _ (by omega)
        have M1 := Lib.hid m1
        clear m1 c0 c0l
        go_wp2
        go_ret2
        rw [← HE.out, mintF_new hp1 hp2 HT.out]
        exact ⟨rfl, ⟨_, M1.out, ⟨h2, h3⟩, m2⟩, m3, m4⟩
theorem rmint_calls (w : World) (base : Nat) (ok : Nat → Prop) (r : Nat) (L : List Ent) (p : Int) (A : Option Addr) (c : Nat) (l : List Int) (h : RefAt w base ok r L) (hfr : ∀ k, w.heap.size ≤ k → ok k) (hb : base ≤ w.heap.size)
    (hr : Kd.C (Kd.int .u8) w A l.length l) (hc : l.length ≤ c) (hl : l.length ≤ 1000000) (hL : L.length ≤ 1000000) (hf : ∀ x ∈ L, fine x) :
    Calls Try.prog 12 #[.pointer (some ⟨r, 0, none⟩), .int .i64 p, .slice A l.length c] w fun e w' => e = .returned (.tuple #[.int .u64 (mintF L p l).1, .int .i64 (mintF L p l).2.1]) ∧ RefAt w' base ok r (mintF L p l).2.2 ∧ Below base w w' ∧ Off ok w w' := by
  by_cases hp : p < 1 ∨ 2147483647 < p
  · have hm : mintF L p l = (0, 1, L) := by unfold mintF; rw [if_pos hp]
    rw [hm]
    exact (rmint_arg w r p A l.length c hp).mono fun e w' ⟨he, hw⟩ => ⟨he, by rw [← hw]; exact h, by rw [← hw]; exact Below.refl _ _, by rw [← hw]; exact Off.refl _ _⟩
  · exact rmint_in w base ok r L p A c l h hfr hb (by omega) (by omega) hr hc hl hL hf
end Go.Proofs.Ytmidmdbhbhjcdaa.Nt
