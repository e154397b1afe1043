/-
  FlowOrder: the walk of the law: whatever the text and the order: it returns true, and nothing that lay has turned. Condition: both are bytes.
-/
import Derived.Test.YtgkcncdanhkkoaaFa
import Derived.IntWalk
import Derived.Deep.CutBlock
namespace Go.Proofs.Ytgkcncdanhkkoaa.Fw
open Go.RowKit Go.Maps Go.Proofs.Ytgkcncdanhkkoaa.Sp Go.Proofs.YtgkcncdanhkkoaaW.PrintWords Go.Proofs.YtgkcncdanhkkoaaW.PrintLast Go.Proofs.YtgkcncdanhkkoaaW.PrintMore
set_option linter.unusedVariables false
set_option linter.unusedSimpArgs false
theorem wf_bd {k : IntKind} {n lo hi : Int} (h : (Lit.int k n).wf = true) (hl : k.min = lo) (hh : k.max = hi) : lo ≤ n ∧ n ≤ hi := by
  simp only [Lit.wf, Bool.and_eq_true, decide_eq_true_eq] at h
  rw [hl, hh] at h
  exact h
/-- Which parts of 25 have come. -/
def partsG (data : List Int) (H : Nat → Bool) : Nat → Option Int := fun x => if H (x / 25) then data[x]? else none
theorem parts_fill {data : List Int} {H : Nat → Bool} (j n : Nat) (hn : n = min (25 * j + 25) data.length - 25 * j) : fillG (partsG data H) (25 * j) ((data.drop (25 * j)).take n) = partsG data (fun t => H t || t == j) := by
  funext x
  unfold fillG partsG
  by_cases h1 : H (x / 25) = true
  · have h2 : (H (x / 25) || x / 25 == j) = true := by rw [h1]; rfl
    rw [if_pos h1, if_pos h2]
    cases hx : data[x]? with
    | some c => rfl
    | none =>
      dsimp only
      have := List.getElem?_eq_none_iff.1 hx
      split
      · rw [List.getElem?_eq_none_iff, List.length_take, List.length_drop]
        omega
      · rfl
  · rw [if_neg h1]
    dsimp only
    by_cases h3 : x / 25 = j
    · have h2 : (H (x / 25) || x / 25 == j) = true := by rw [h3]; simp
      rw [if_pos h2, if_pos (by omega), List.getElem?_take]
      split
      · rw [List.getElem?_drop, show 25 * j + (x - 25 * j) = x by omega]
      · rw [List.getElem?_eq_none (by omega)]
    · have h2 : ¬ (H (x / 25) || x / 25 == j) = true := by
        intro h
        rcases Bool.or_eq_true_iff.1 h with h | h
        · exact h1 h
        · exact h3 (by simpa using h)
      rw [if_neg h2]
      split
      · rw [List.getElem?_take, if_neg (by omega)]
      · rfl
theorem parts_none (data : List Int) : (fun _ => none) = partsG data (fun _ => false) := by
  funext x
  unfold partsG
  simp
theorem parts_all {data : List Int} {H : Nat → Bool} (h : ∀ t, t < (data.length + 24) / 25 → H t = true) (x : Nat) : partsG data H x = data[x]? := by
  unfold partsG
  by_cases hx : x < data.length
  · rw [if_pos (h _ (by omega))]
  · rw [List.getElem?_eq_none (by omega)]
    split <;> rfl
theorem order_early (A0 : Option Addr) (c0 : Nat) (l0 : List Int) (A1 : Option Addr) (c1 : Nat) (l1 : List Int) (w : World) (h : 900 < l0.length ∨ 80 < l1.length) :
    Calls Try.prog 3 #[.slice A0 l0.length c0, .slice A1 l1.length c1] w fun e w' => e = .returned (.bool true) ∧ Below w.heap.size w w' := by
  have HA := Lib.hid (awake_calls w)
  by_cases h1 : 900 < l0.length
  · have g1 : decide (900 < (l0.length : Int)) = true := decide_eq_true (by omega)
    clear h
    go_enter Try.func3, Try.ntmps3
    go_wp2_with (go_at_call 8; refine HA.out.mono ?_; rintro e w1 ⟨rfl, hb1⟩)
    go_ret
    exact ⟨rfl, hb1⟩
  · have g1 : decide (900 < (l0.length : Int)) = false := decide_eq_false (by omega)
    have g2 : decide (80 < (l1.length : Int)) = true := decide_eq_true (by omega)
    clear h
    go_enter Try.func3, Try.ntmps3
    go_wp2_with (go_at_call 8; refine HA.out.mono ?_; rintro e w1 ⟨rfl, hb1⟩)
    go_ret
    exact ⟨rfl, hb1⟩
set_option maxRecDepth 100000 in
set_option maxHeartbeats 2000000 in
theorem order_in (A0 : Option Addr) (c0 : Nat) (data : List Int) (A1 : Option Addr) (c1 : Nat) (ord : List Int) (w : World)
    (hr0 : Kd.C (Kd.int .u8) w A0 data.length data) (hc0 : data.length ≤ c0) (hb0 : ∀ b ∈ data, 0 ≤ b ∧ b ≤ 255) (h0 : data.length ≤ 900)
    (hr1 : Kd.C (Kd.int .u8) w A1 ord.length ord) (hc1 : ord.length ≤ c1) (hb1 : ∀ b ∈ ord, 0 ≤ b ∧ b ≤ 255) (h1 : ord.length ≤ 80) :
    Calls Try.prog 3 #[.slice A0 data.length c0, .slice A1 ord.length c1] w fun e w' => e = .returned (.bool true) ∧ Below w.heap.size w w' := by
  have HA := Lib.hid (awake_calls w)
  have q26 : ∀ (w : World) (a : Addr), (binOp .eql 24 (.pointer (some a)) (.pointer none)).run Try.prog w = .ok (.bool false) w := fun w a => by kernel_rfl
  have g1 : decide (900 < (data.length : Int)) = false := decide_eq_false (by omega)
  have g2 : decide (80 < (ord.length : Int)) = false := decide_eq_false (by omega)
  have e1 : IntKind.i64.wrap ((data.length : Int) + 24) = (data.length : Int) + 24 := i64_of (by omega)
  obtain ⟨k, hk⟩ : ∃ k, (data.length + 24) / 25 = k := ⟨_, rfl⟩
  have e2 : ((data.length : Int) + 24) / 25 = (k : Int) := by omega
  have e3 : IntKind.i64.wrap ((ord.length : Int) + (k : Int)) = (ord.length : Int) + (k : Int) := i64_of (by omega)
  have hk0 : data.length ≤ 25 * k ∧ 25 * k < data.length + 25 ∧ k ≤ 40 := by omega
  have HR0 := Lib.hid hr0
  have HR1 := Lib.hid hr1
  have HB0 := Lib.hid hb0
  have HB1 := Lib.hid hb1
  have HK := Lib.hid hk
  clear hr0 hr1 hb0 hb1 hk
  go_enter Try.func3, Try.ntmps3
  go_upto_region 9 with (first
    | (go_at_call 8; refine HA.out.mono ?_; rintro e w1 ⟨rfl, hb1⟩; have HW1 := Lib.hid hb1; have hs1 := hb1.size; clear hb1)
    | (go_at_call 9; refine (rr_new (base := w.heap.size) (Xs := []) (av := fun _ => False) 1000 (by decide) (by decide) (fun k hk => hk.elim) hs1).mono ?_; rintro e w2 ⟨gr, rfl, h2, hb2⟩; have H2 := Lib.hid h2; have HW2 := Lib.hid (HW1.out.trans (hb2.mono hs1)); have hs2 := HW2.out.size; clear h2 hb2))
  rw [e2]
  clear g1 g2 e1 e2
  go_upto_block 0 with fail
  go_cut [] from 79 (fun wx => ∃ r, Sep wx [rcvOb w.heap.size gr r] (fun _ => False) ∧ (∀ x, r.G x = data[x]?) ∧ r.read = 0 ∧ r.win = 1000 ∧ Below w.heap.size w wx)
  case first =>
    go_wp2
    go_loopw [8] (fun v8 wr => ∃ (i : Nat) (b : List Int) (n : Nat) (H : Nat → Bool), v8 = .int .i64 i ∧ i ≤ ord.length + k ∧ n ≤ 25 * i ∧ Hid (Sep wr [rcvOb w.heap.size gr ⟨1000, b, 0, n, partsG data H⟩] (fun _ => False)) ∧ Hid (∀ t, t + ord.length < i → H t = true) ∧ Hid (Below w.heap.size w wr)) (fun v8 _ => ord.length + k - (intOf v8).toNat)
    case atStart => exact ⟨0, [], 0, fun _ => false, rfl, Nat.zero_le _, by omega, Lib.hid (by rw [← parts_none]; exact H2.out), Lib.hid (fun t ht => by omega), HW2⟩
    case round =>
      obtain ⟨i, b, n, H, rfl, hi, hn, HS, HH, HW⟩ := hrel
      by_cases hlt : i < ord.length + k
      · have b0 : decide ((i : Int) < (ord.length : Int) + (k : Int)) = true := decide_eq_true (by omega)
        by_cases hkz : k = 0
        · have q0 : ((k : Int) == 0) = true := by simpa using hkz
          go_wp2
          go_meet
          case rel => exact ⟨_, HS.out, fun x => parts_all (fun t ht => by rw [HK.out] at ht; omega) x, rfl, rfl, HW.out⟩
        · have q0 : ((k : Int) == 0) = false := by simpa using hkz
          obtain ⟨j, hjk, hja, hjb⟩ : ∃ j, j < k ∧ (ord.length ≤ i → j + ord.length = i) ∧ (∀ h : i < ord.length, ord[i] % (k : Int) = (j : Int)) := by
            by_cases h : i < ord.length
            · refine ⟨(ord[i] % (k : Int)).toNat, ?_, fun h2 => by omega, fun h2 => ?_⟩
              · have := Int.emod_lt_of_pos ord[i] (show (0 : Int) < (k : Int) by omega)
                have := Int.emod_nonneg ord[i] (show (k : Int) ≠ 0 by omega)
                omega
              · have := Int.emod_nonneg ord[i] (show (k : Int) ≠ 0 by omega)
                omega
            · exact ⟨i - ord.length, by omega, fun _ => by omega, fun h2 => absurd h2 h⟩
          obtain ⟨a, ha⟩ : ∃ a, 25 * j = a := ⟨_, rfl⟩
          obtain ⟨n1, hn1⟩ : ∃ n1, min (a + 25) data.length - a = n1 := ⟨_, rfl⟩
          have x1 : IntKind.i64.wrap (25 * (j : Int)) = (a : Int) := by rw [i64_of (by omega)]; omega
          have x2 : IntKind.i64.wrap ((a : Int) + 25) = (a : Int) + 25 := i64_of (by omega)
          have x3 : (if (data.length : Int) < (a : Int) + 25 then (data.length : Int) else (a : Int) + 25) = (a : Int) + (n1 : Int) := by rw [← hn1]; split <;> omega
          have hal : a + n1 ≤ data.length ∧ 1 ≤ n1 ∧ n1 ≤ 25 := by omega
          obtain ⟨A2, hcut, hC2⟩ := mid_cut A0 c0 data a n1 hal.1 hc0
          have hl : ((data.drop a).take n1).length = n1 := by rw [List.length_take, List.length_drop]; omega
          obtain ⟨W5, hW5⟩ : ∃ W5, wr.alloc (.cells #[.int .i64 a, .slice A2 n1 (c0 - a)] 29) = W5 := ⟨_, rfl⟩
          have hb5 : Below wr.heap.size wr W5 := by rw [← hW5]; exact (Below.refl _ _).alloc (Nat.le_refl _) _
          have hE5 : W5.heap[wr.heap.size]? = some (.cells #[.int .i64 a, .slice A2 n1 (c0 - a)] 29 (0, 0)) := by rw [← hW5]; exact new_cellsN _ _ _
          have d0 := cell_cellsN hE5 0 (by simp)
          have d1 := cell_cellsN hE5 1 (by simp)
          dsimp only [List.getElem_toArray, List.getElem_cons_zero, List.getElem_cons_succ] at d0 d1
          have hws := HW.out.size
          have HKH := Lib.hid (rr_hear_yes (w := W5) (av := fun _ => False) a A2 n1 (c0 - a) ((data.drop a).take n1) hl.symm (HS.out.step' hb5) (by have := hb5.size; omega) (hC2 W5 (Kd.C_below HR0.out (HW.out.trans (hb5.mono hws)))) (by omega) (fun x hx => HB0.out x (List.mem_of_mem_drop (List.mem_of_mem_take hx))) (by show n + 500 ≤ _; omega) (by
            unfold hearB
            show (decide ((a : Int) < 0) || decide (1048576 < (a : Int)) || decide (n1 < 1) || decide (500 < n1) || decide (min (((0 : Nat) : Int) + ((1000 : Nat) : Int)) 1048576 < (a : Int) + (n1 : Int))) = false
            rw [decide_eq_false (by omega), decide_eq_false (by omega), decide_eq_false (by omega), decide_eq_false (by omega), decide_eq_false (by omega)]
            rfl))
          have HPF := Lib.hid (parts_fill (data := data) (H := H) j n1 (by rw [ha, hn1]))
          have HB5 := Lib.hid (HW.out.trans (hb5.mono hws))
          have HA2 := Lib.hid ha
          have HJA := Lib.hid hja
          have HL2 := Lib.hid hl
          by_cases hio : i < ord.length
          · have x0 : decide ((i : Int) < (ord.length : Int)) = true := decide_eq_true (by omega)
            have x4 : (i : Int) < (ord.length : Int) := by omega
            have x5 := hjb hio
            obtain ⟨ad, rfl, hcell⟩ := cell_of_C (Kd.C_below HR1.out HW.out) i hio rfl
            obtain ⟨x, hx⟩ : ∃ x, ord[i] = x := ⟨_, rfl⟩
            have hxb := HB1.out x (by rw [← hx]; exact List.getElem_mem hio)
            rw [hx] at hcell x5
            clear hx hjb hja hC2 hb5 hE5 ha hn1 hl
            go_wp2_with (go_at_call 10; refine HKH.out.mono ?_; rintro e w6 ⟨rfl, ⟨b', h6⟩, _, hb6⟩; have H6 := Lib.hid h6; have HB6 := Lib.hid (HB5.out.trans hb6); clear h6 hb6)
            go_roundw
            case rel =>
              refine ⟨i + 1, b', n + ((data.drop a).take n1).length, fun t => H t || t == j, by go_num, by omega, by rw [HL2.out]; omega, Lib.hid ?_, Lib.hid (fun t ht => ?_), HB6⟩
              · have h := H6.out
                have e := HPF.out
                rw [HA2.out] at e
                try dsimp only at h
                rw [e] at h
                exact h
              · show (H t || t == j) = true
                by_cases h : t + ord.length < i
                · rw [HH.out t h]; rfl
                · have := HJA.out (by omega)
                  have e : t = j := by omega
                  rw [e]
                  simp
            case measure => simp [intOf]; omega
          · have x0 : decide ((i : Int) < (ord.length : Int)) = false := decide_eq_false (by omega)
            have x5 : IntKind.i64.wrap ((i : Int) - (ord.length : Int)) = (j : Int) := by rw [i64_of (by omega)]; have := hja (by omega); omega
            clear hjb hja hC2 hb5 hE5 ha hn1 hl
            go_wp2_with (go_at_call 10; refine HKH.out.mono ?_; rintro e w6 ⟨rfl, ⟨b', h6⟩, _, hb6⟩; have H6 := Lib.hid h6; have HB6 := Lib.hid (HB5.out.trans hb6); clear h6 hb6)
            go_roundw
            case rel =>
              refine ⟨i + 1, b', n + ((data.drop a).take n1).length, fun t => H t || t == j, by go_num, by omega, by rw [HL2.out]; omega, Lib.hid ?_, Lib.hid (fun t ht => ?_), HB6⟩
              · have h := H6.out
                have e := HPF.out
                rw [HA2.out] at e
                try dsimp only at h
                rw [e] at h
                exact h
              · show (H t || t == j) = true
                by_cases h : t + ord.length < i
                · rw [HH.out t h]; rfl
                · have := HJA.out (by omega)
                  have e : t = j := by omega
                  rw [e]
                  simp
            case measure => simp [intOf]; omega
      · have b0 : decide ((i : Int) < (ord.length : Int) + (k : Int)) = false := decide_eq_false (by omega)
        go_wp2
        go_meet
        case rel => exact ⟨_, HS.out, fun x => parts_all (fun t ht => HH.out t (by rw [HK.out] at ht; omega)) x, rfl, rfl, HW.out⟩
  case rest =>
    obtain ⟨⟨win, b, read, n, G⟩, hS, hG, hrd, hwin, hB⟩ := hcut
    have hbd := rr_full hS hG
    dsimp only at hbd hG hrd hwin
    subst hbd hrd hwin
    have HS := Lib.hid hS
    have HB := Lib.hid hB
    have hws := hB.size
    have e4 : readB ⟨1000, b, 0, n, G⟩ 2000 = b := by
      show (b.drop 0).take (min 2000 (b.length - 0)) = b
      rw [List.drop_zero, List.take_of_length_le (by omega)]
    have e5 : readR ⟨1000, b, 0, n, G⟩ 2000 = ⟨1000, b, b.length, n, G⟩ := by
      show Rc.mk 1000 b (0 + min 2000 (b.length - 0)) n G = _
      rw [show 0 + min 2000 (b.length - 0) = b.length by omega]
    have e6 : readB ⟨1000, b, b.length, n, G⟩ 5 = [] := by
      show (b.drop b.length).take (min 5 (b.length - b.length)) = []
      rw [Nat.sub_self]
      rfl
    have E4 := Lib.hid e4
    have E5 := Lib.hid e5
    have E6 := Lib.hid e6
    have q3 : ((b.length : Int) == (b.length : Int)) = true := by simp
    have KA := Lib.hid (show Calls Try.prog 11 #[.pointer (some ⟨gr, 0, none⟩)] wc fun e w' => e = .returned (.tuple #[.int .i64 b.length, .int .i64 (1000 - ((b.length : Int) - 0))]) ∧ ∃ n, w' = wc.drewN n from rr_ack hS)
    have HRd := Lib.hid (fun (W : World) (b0 : Nat) (o : Nat → Prop) (v : Value) (h : (Kd.int .u8).R 5 W b0 o v []) => show ∃ A c, v = .slice A 0 c ∧ 0 ≤ c ∧ (Kd.int .u8).C W A 0 [] from Kd.R_reads h)
    clear hS hB hG e4 e5 e6
    go_wp2_with (first
      | (go_at_call 11; refine KA.out.mono ?_; rintro e w8 ⟨rfl, n8, h8⟩; have H8 := Lib.hid (show Sep w8 [rcvOb w.heap.size gr ⟨1000, b, 0, n, G⟩] (fun _ => False) from by rw [h8]; exact Fw.Sep.drawn HS.out n8); have HB8 := Lib.hid (show Below w.heap.size w w8 from by rw [h8]; exact below_drN HB.out n8); have hs8 := HB8.out.size; clear h8)
      | (go_at_call 13; (with_reducible refine (rr_read 2000 H8.out hs8).mono ?_); rintro e w9 ⟨v9, rfl, hR9, h9, _, hb9⟩; rw [E4.out] at hR9; rw [E5.out] at h9; obtain ⟨A9, c9, rfl, hc9, hC9⟩ := Kd.R_reads hR9; have H9 := Lib.hid h9; have HB9 := Lib.hid (HB8.out.trans hb9); have hs9 := HB9.out.size; have HC9 := Lib.hid hC9; clear hR9 h9 hb9 hC9)
      | (go_at_call 12; refine (same_calls _ A9 c9 b A0 c0 b HC9.out hc9 (Kd.C_below HR0.out HB9.out) hc0 (by omega)).mono ?_; rintro e w10 ⟨he, hd⟩; rw [decide_eq_true rfl] at he; subst he; obtain ⟨n10, hn10⟩ := hd.out; have H10 := Lib.hid (show Sep w10 [rcvOb w.heap.size gr ⟨1000, b, b.length, n, G⟩] (fun _ => False) from by rw [hn10]; exact Fw.Sep.drawn (H9.out.sub (fun k hk => hk.elim)) n10); have HB10 := Lib.hid (show Below w.heap.size w w10 from by rw [hn10]; exact below_drN HB9.out n10); have hs10 := HB10.out.size; clear hd hn10)
      | (go_at_call 13; (with_reducible refine (rr_read 5 H10.out hs10).mono ?_); rintro e w11 ⟨v11, rfl, hR11, _, _, hb11⟩; rw [E6.out] at hR11; obtain ⟨A11, c11, rfl, _, _⟩ := HRd.out _ _ _ _ hR11; have HB11 := Lib.hid (HB10.out.trans hb11); clear hR11 hb11))
    go_ret
    exact ⟨rfl, HB11.out⟩
theorem order_row (A0 : Option Addr) (c0 : Nat) (l0 : List Int) (A1 : Option Addr) (c1 : Nat) (l1 : List Int) (w : World)
    (hr0 : Kd.C (Kd.int .u8) w A0 l0.length l0) (hc0 : l0.length ≤ c0) (hy0 : l0.length * 1 ≤ 140737488351232) (hw0 : ∀ b ∈ l0, (Lit.int .u8 b).wf = true)
    (hr1 : Kd.C (Kd.int .u8) w A1 l1.length l1) (hc1 : l1.length ≤ c1) (hy1 : l1.length * 1 ≤ 140737488351232) (hw1 : ∀ b ∈ l1, (Lit.int .u8 b).wf = true) :
    Calls Try.prog 3 #[.slice A0 l0.length c0, .slice A1 l1.length c1] w fun e w' => e = .returned (.bool true) ∧ Below w.heap.size w w' := by
  by_cases h : l0.length ≤ 900 ∧ l1.length ≤ 80
  · exact order_in A0 c0 l0 A1 c1 l1 w hr0 hc0 (fun b hb => wf_bd (hw0 b hb) (by decide) (by decide)) h.1 hr1 hc1 (fun b hb => wf_bd (hw1 b hb) (by decide) (by decide)) h.2
  · exact order_early A0 c0 l0 A1 c1 l1 w (by omega)
end Go.Proofs.Ytgkcncdanhkkoaa.Fw
