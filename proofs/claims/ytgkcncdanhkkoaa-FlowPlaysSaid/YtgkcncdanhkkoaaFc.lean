/-
  FlowAll: the walk of the law: whatever the text and the window: it returns true, and nothing that lay has turned. Condition: the text is bytes, the window a number of 16 bits.
-/
import Derived.Test.YtgkcncdanhkkoaaFo
namespace Go.Proofs.Ytgkcncdanhkkoaa.Fw
open Go.RowKit Go.Maps Go.Proofs.Ytgkcncdanhkkoaa.Sp Go.Proofs.YtgkcncdanhkkoaaW.PrintWords Go.Proofs.YtgkcncdanhkkoaaW.PrintLast Go.Proofs.YtgkcncdanhkkoaaW.PrintMore
set_option linter.unusedVariables false
set_option linter.unusedSimpArgs false
/-! ### a row beside the others -/
def rowOb (base : Nat) (v : Value) (l : List Int) : Ob := ⟨fun w ok => (Kd.int .u8).R 5 w base ok v l, fun h hm => Kd.R_step h hm⟩
theorem Sep.third {w : World} {X Y Z : Ob} {Xs : List Ob} {av : Nat → Prop} (h : Sep w (X :: Y :: Z :: Xs) av) : Sep w (Z :: X :: Y :: Xs) av := by
  obtain ⟨ok, h1, h2, h3, h4⟩ := h
  exact Sep.swap ⟨ok, h1, h2, h3, Sep.swap h4⟩
theorem Sep.back {w : World} {X Y Z : Ob} {Xs : List Ob} {av : Nat → Prop} (h : Sep w (Z :: X :: Y :: Xs) av) : Sep w (X :: Y :: Z :: Xs) av := by
  obtain ⟨ok, h1, h2, h3, h4⟩ := Sep.swap h
  exact ⟨ok, h1, h2, h3, Sep.swap h4⟩
theorem row_new {base : Nat} {w : World} {Xs : List Ob} {av : Nat → Prop} (h : Sep w Xs av) : Sep w (rowOb base (.slice none 0 0) [] :: Xs) av :=
  ⟨fun _ => False, Kd.R_nil _ _ _ _ _, fun k hk => hk.elim, fun k _ hk => hk, h.sub (fun k hk => hk.elim id (fun a => a.elim))⟩
theorem row_open {base : Nat} {w : World} {v : Value} {xs : List Int} {Xs : List Ob} {av : Nat → Prop} (h : Sep w (rowOb base v xs :: Xs) av) :
    ∃ ok : Nat → Prop, (Kd.int .u8).R 5 w base ok v xs ∧ (∀ k, w.heap.size ≤ k → ok k) ∧ ∀ (v1 : Value) (w1 : World) (zs : List Int), (Kd.int .u8).R 5 w1 base ok v1 zs → w.grownBy w1 v.ownBlock → Sep w1 (rowOb base v1 zs :: Xs) av ∧ ∀ b, av b → w1.heap[b]? = w.heap[b]? := by
  obtain ⟨ok, h1, h2, h3, h4⟩ := h
  have h1' : (Kd.int .u8).R 5 w base ok v xs := h1
  refine ⟨fun k => ok k ∨ w.heap.size ≤ k, Kd.R_mono h1' (fun k hk => .inl hk), fun k hk => .inr hk, fun v1 w1 zs hR hg => ?_⟩
  exact Sep.turned (X := rowOb base v xs) (X' := rowOb base v1 zs) h2 h3 h4 (show (rowOb base v1 zs).P w1 (fun k => (ok k ∨ w.heap.size ≤ k) ∧ k < w1.heap.size) from Kd.R_mono (Kd.R_bound hR) (fun k hk => ⟨hk.1, hk.2.2.1⟩)) (fun k hk => hk.1) (fun k hk => hk.2) (Off.grown hg (fun k hk => .inl (h1'.1 k hk)))
theorem fill_prefix {data : List Int} {m n : Nat} (hm : m + n ≤ data.length) : fillG (fun i => (data.take m)[i]?) m ((data.drop m).take n) = fun i => (data.take (m + n))[i]? := by
  funext i
  have e0 : fillG (fun i => (data.take m)[i]?) m ((data.drop m).take n) i = match (data.take m)[i]? with | some c => some c | none => if m ≤ i then ((data.drop m).take n)[i - m]? else none := rfl
  rw [e0]
  by_cases h1 : i < m
  · have e1 : (data.take m)[i]? = data[i]? := by rw [List.getElem?_take, if_pos h1]
    have e2 : (data.take (m + n))[i]? = data[i]? := by rw [List.getElem?_take, if_pos (by omega)]
    rw [e1, e2]
    cases hx : data[i]? with
    | some c => rfl
    | none => have := List.getElem?_eq_none_iff.1 hx; omega
  · have e1 : (data.take m)[i]? = none := by rw [List.getElem?_eq_none_iff, List.length_take]; omega
    rw [e1]
    dsimp only
    rw [if_pos (by omega), List.getElem?_take, List.getElem?_take, List.getElem?_drop, show m + (i - m) = i by omega]
    by_cases h2 : i < m + n
    · rw [if_pos (by omega), if_pos h2]
    · rw [if_neg (by omega), if_neg h2]
theorem row_C {base : Nat} {w : World} {A : Option Addr} {n c : Nat} {l : List Int} {Xs : List Ob} {av : Nat → Prop} (h : Sep w (rowOb base (.slice A n c) l :: Xs) av) : n = l.length ∧ n ≤ c ∧ (Kd.int .u8).C w A n l := by
  obtain ⟨ok, hR⟩ := h.head
  have hR' : (Kd.int .u8).R 5 w base ok (.slice A n c) l := hR
  obtain ⟨h1, h2, h3⟩ := Kd.R_reads' hR'
  rw [← h1] at h3
  exact ⟨h1, h2, h3⟩
theorem row_val {base : Nat} {w : World} {v : Value} {l : List Int} {Xs : List Ob} {av : Nat → Prop} (h : Sep w (rowOb base v l :: Xs) av) : ∃ A c, v = .slice A l.length c := by
  obtain ⟨ok, hR⟩ := h.head
  have hR' : (Kd.int .u8).R 5 w base ok v l := hR
  obtain ⟨A, c, h1, _⟩ := Kd.R_reads hR'
  exact ⟨A, c, h1⟩
theorem take_drop_take {data : List Int} {m k : Nat} (h : m ≤ k) : ((data.take k).drop m).take (k - m) = (data.drop m).take (k - m) := by
  rw [List.drop_take, List.take_take, Nat.min_self]
theorem take_more {data : List Int} {m k : Nat} (h : m ≤ k) : data.take m ++ (data.drop m).take (k - m) = data.take k := by
  have e := List.take_append_drop m (data.take k)
  rw [List.take_take, Nat.min_eq_left h, List.drop_take] at e
  exact e
theorem all_early (A0 : Option Addr) (c0 : Nat) (l0 : List Int) (x : Int) (w : World) (hx : 0 ≤ x ∧ x ≤ 65535) (h : 3000 < l0.length) (hlen : l0.length ≤ 140737488351232) :
    Calls Try.prog 4 #[.slice A0 l0.length c0, .int .u16 x] w fun e w' => e = .returned (.bool true) ∧ Below w.heap.size w w' := by
  have HA := Lib.hid (awake_calls w)
  have q25 : ∀ (w : World) (a : Addr), (binOp .eql 36 (.pointer (some a)) (.pointer none)).run Try.prog w = .ok (.bool false) w := fun w a => by kernel_rfl
  have q26 : ∀ (w : World) (a : Addr), (binOp .eql 24 (.pointer (some a)) (.pointer none)).run Try.prog w = .ok (.bool false) w := fun w a => by kernel_rfl
  obtain ⟨W, hW⟩ : ∃ W : Nat, 1 + x % 4096 = (W : Int) := ⟨(1 + x % 4096).toNat, by omega⟩
  have hW2 : 1 ≤ W ∧ W ≤ 4096 := by omega
  have g1 : decide (3000 < (l0.length : Int)) = true := decide_eq_true (by omega)
  have HN := Lib.hid (show Sep w [] (fun _ => False) from fun k hk => hk.elim)
  go_enter Try.func4, Try.ntmps4
  go_wp2_with (first
    | (go_at_call 8; refine HA.out.mono ?_; rintro e w1 ⟨rfl, hb1⟩; have HW1 := Lib.hid hb1; have hs1 := hb1.size; clear hb1)
    | (go_at_call 14; refine (ss_new (base := w.heap.size) (w := w1) (Xs := []) (av := fun _ => False) (fun k hk => hk.elim) hs1).mono ?_; rintro e w2 ⟨gs, rfl, h2, hb2⟩; have H2 := Lib.hid h2; have HW2 := Lib.hid (HW1.out.trans (hb2.mono hs1)); have hs2 := HW2.out.size; clear h2 hb2)
    | (go_at_call 9; refine (rr_new W hW2.1 hW2.2 H2.out hs2).mono ?_; rintro e w3 ⟨gr, rfl, h3, hb3⟩; have HW3 := Lib.hid (HW2.out.trans (hb3.mono hs2)); clear h3 hb3))
  go_ret
  exact ⟨rfl, HW3.out⟩
set_option maxRecDepth 100000 in
set_option maxHeartbeats 4000000 in
theorem all_in (A0 : Option Addr) (c0 : Nat) (data : List Int) (x : Int) (w : World) (hx : 0 ≤ x ∧ x ≤ 65535)
    (hr0 : Kd.C (Kd.int .u8) w A0 data.length data) (hc0 : data.length ≤ c0) (hb0 : ∀ b ∈ data, 0 ≤ b ∧ b ≤ 255) (h0 : data.length ≤ 3000) :
    Calls Try.prog 4 #[.slice A0 data.length c0, .int .u16 x] w fun e w' => e = .returned (.bool true) ∧ Below w.heap.size w w' := by
  have HA := Lib.hid (awake_calls w)
  have q25 : ∀ (w : World) (a : Addr), (binOp .eql 36 (.pointer (some a)) (.pointer none)).run Try.prog w = .ok (.bool false) w := fun w a => by kernel_rfl
  have q26 : ∀ (w : World) (a : Addr), (binOp .eql 24 (.pointer (some a)) (.pointer none)).run Try.prog w = .ok (.bool false) w := fun w a => by kernel_rfl
  obtain ⟨W, hW⟩ : ∃ W : Nat, 1 + x % 4096 = (W : Int) := ⟨(1 + x % 4096).toNat, by omega⟩
  have hW2 : 1 ≤ W ∧ W ≤ 4096 := by omega
  have g1 : decide (3000 < (data.length : Int)) = false := decide_eq_false (by omega)
  have HN := Lib.hid (show Sep w [] (fun _ => False) from fun k hk => hk.elim)
  have HR0 := Lib.hid hr0
  have HB0 := Lib.hid hb0
  clear hr0 hb0
  have EW := Lib.hid (show writeS S0 data = ⟨data, 0, 0, 0, 0⟩ by
    unfold writeS writeN S0
    rw [List.nil_append, List.take_of_length_le (by show data.length ≤ min data.length (1048576 - 0); omega)])
  go_enter Try.func4, Try.ntmps4
  go_upto_region 9 with (first
    | (go_at_call 8; refine HA.out.mono ?_; rintro e w1 ⟨rfl, hb1⟩; have HW1 := Lib.hid hb1; have hs1 := hb1.size; clear hb1)
    | (go_at_call 14; refine (ss_new (base := w.heap.size) (w := w1) (Xs := []) (av := fun _ => False) (fun k hk => hk.elim) hs1).mono ?_; rintro e w2 ⟨gs, rfl, h2, hb2⟩; have H2 := Lib.hid h2; have HW2 := Lib.hid (HW1.out.trans (hb2.mono hs1)); have hs2 := HW2.out.size; clear h2 hb2)
    | (go_at_call 9; refine (rr_new W hW2.1 hW2.2 H2.out hs2).mono ?_; rintro e w3 ⟨gr, rfl, h3, hb3⟩; have H3 := Lib.hid (Sep.swap h3); have HW3 := Lib.hid (HW2.out.trans (hb3.mono hs2)); have hs3 := HW3.out.size; clear h3 hb3)
    | (go_at_call 15; refine (ss_write A0 data.length c0 data rfl H3.out hs3 (Kd.C_below HR0.out HW3.out) hc0 HB0.out (by omega)).mono ?_; rintro e w4 ⟨rfl, h4, _, hb4⟩; rw [EW.out] at h4; have H4 := Lib.hid h4; have HW4 := Lib.hid (HW3.out.trans hb4); have hs4 := HW4.out.size; clear h4 hb4))
  clear g1 hW
  go_wp2
  go_loopw [9, 10, 11] (fun v9 v10 v11 wr => ∃ (i m bs lim n : Nat), v10 = .int .i64 m ∧ v11 = .int .i64 i ∧ i ≤ m ∧ m ≤ data.length ∧ bs ≤ m ∧ lim ≤ m + W ∧ n ≤ m ∧ Hid (Sep wr [sndOb w.heap.size gs ⟨data, bs, m, m, lim⟩, rcvOb w.heap.size gr ⟨W, data.take m, m, n, fun i => (data.take m)[i]?⟩, rowOb w.heap.size v9 (data.take m)] (fun _ => False)) ∧ Hid (Below w.heap.size w wr)) (fun _ _ v11 _ => 3100 - (intOf v11).toNat)
  case atStart => exact ⟨0, 0, 0, 0, 0, rfl, rfl, by omega, by omega, by omega, by omega, by omega, Lib.hid (Sep.back (row_new H4.out)), HW4⟩
  case round =>
    obtain ⟨i, m, bs, lim, n, rfl, rfl, him, hm, hbs, hlim, hn, HS, HW⟩ := hrel
    have b0 : decide ((i : Int) < 3100) = true := decide_eq_true (by omega)
    have hws := HW.out.size
    have hlm : (data.take m).length = m := by rw [List.length_take]; omega
    obtain ⟨A9, c9, hu9⟩ := row_val (Sep.third HS.out)
    rw [hlm] at hu9
    subst hu9
    have KA := Lib.hid (show Calls Try.prog 11 #[.pointer (some ⟨gr, 0, none⟩)] wr fun e w' => e = .returned (.tuple #[.int .i64 m, .int .i64 W]) ∧ ∃ n, w' = wr.drewN n from (dd_ack HS.out).mono fun e w' ⟨he, h⟩ => ⟨by rw [he]; dsimp only; rw [hlm, Int.sub_self, Int.sub_zero], h⟩)
    have EK := Lib.hid (show ackS ⟨data, bs, m, m, lim⟩ m W = ⟨data, m, m, m, m + W⟩ by
      unfold ackS
      dsimp only
      rw [Nat.max_self, Nat.max_eq_right hlim])
    have HK := Lib.hid (show ∀ V : World, Sep V [sndOb w.heap.size gs ⟨data, bs, m, m, lim⟩, rcvOb w.heap.size gr ⟨W, data.take m, m, n, fun i => (data.take m)[i]?⟩, rowOb w.heap.size (.slice A9 m c9) (data.take m)] (fun _ => False) → Calls Try.prog 16 #[.pointer (some ⟨gs, 0, none⟩), .int .i64 m, .int .i64 W] V fun e w' => e = .returned (.bool true) ∧ Sep w' [sndOb w.heap.size gs ⟨data, m, m, m, m + W⟩, rcvOb w.heap.size gr ⟨W, data.take m, m, n, fun i => (data.take m)[i]?⟩, rowOb w.heap.size (.slice A9 m c9) (data.take m)] (fun _ => False) ∧ Below w.heap.size V w' from fun V hV => (ss_ack_yes m W hV (by
      unfold ackB
      dsimp only
      rw [decide_eq_false (by omega), decide_eq_false (by omega), decide_eq_false (by omega), decide_eq_false (by omega)]
      rfl)).mono fun e w' ⟨he, h1, _, h2⟩ => ⟨he, by rw [EK.out] at h1; exact h1, h2⟩)
    go_upto_region 17 with (first
      | (go_at_call 11; refine KA.out.mono ?_; rintro e w5 ⟨rfl, n5, h5⟩; have H5 := Lib.hid (show Sep w5 [sndOb w.heap.size gs ⟨data, bs, m, m, lim⟩, rcvOb w.heap.size gr ⟨W, data.take m, m, n, fun i => (data.take m)[i]?⟩, rowOb w.heap.size (.slice A9 m c9) (data.take m)] (fun _ => False) from by rw [h5]; exact Fw.Sep.drawn HS.out n5); have HB5 := Lib.hid (show Below w.heap.size w w5 from by rw [h5]; exact below_drN HW.out n5); clear h5)
      | (go_at_call 16; refine (HK.out w5 H5.out).mono ?_; rintro e w6 ⟨rfl, h6, hb6⟩; have H6 := Lib.hid h6; have HB6 := Lib.hid (HB5.out.trans hb6); clear h6 hb6))
    have hs6 := HB6.out.size
    clear b0
    by_cases hml : m < data.length
    · obtain ⟨k, hk⟩ : ∃ k, nextE ⟨data, m, m, m, m + W⟩ = k := ⟨_, rfl⟩
      have hk2 : k = min (m + 500) (min data.length (m + W)) := by rw [← hk]; rfl
      obtain ⟨n1, hn1⟩ : ∃ n1, k - m = n1 := ⟨_, rfl⟩
      have hkn : m < k ∧ k ≤ data.length ∧ n1 ≤ 500 ∧ 1 ≤ n1 ∧ m + n1 = k ∧ n1 ≤ W := by omega
      have hl1 : ((data.drop m).take n1).length = n1 := by rw [List.length_take, List.length_drop]; omega
      have KN := Lib.hid (show Calls Try.prog 17 #[.pointer (some ⟨gs, 0, none⟩)] w6 fun e w' => ∃ v, e = .returned (.tuple #[.agg #[.int .i64 m, v], .bool true]) ∧ (Kd.int .u8).R 5 w' w6.heap.size (fun _ => True) v ((data.drop m).take n1) ∧
          Sep w' [sndOb w.heap.size gs ⟨data, m, k, k, m + W⟩, rcvOb w.heap.size gr ⟨W, data.take m, m, n, fun i => (data.take m)[i]?⟩, rowOb w.heap.size (.slice A9 m c9) (data.take m)] (fun k => w6.heap.size ≤ k ∧ k < w'.heap.size) ∧ Below w.heap.size w6 w' from (ss_next_yes H6.out (by rw [hk]; exact hkn.1)).mono fun e w' ⟨v, he, hR, hS, _, hB⟩ => ⟨v, he, by
            unfold nextB at hR
            rw [hk] at hR
            dsimp only at hR
            rw [hn1] at hR
            exact hR, by
            have e2 : nextS ⟨data, m, m, m, m + W⟩ = ⟨data, m, k, k, m + W⟩ := by
              unfold nextS
              rw [hk]
              dsimp only
              rw [Nat.max_eq_right (by omega)]
            rw [e2] at hS
            exact hS.sub (fun k hk => .inr hk), hB⟩)
      go_upto_region 18 with (go_at_call 17; refine KN.out.mono ?_; rintro e w7 ⟨v7, rfl, hR7, h7, hb7⟩; obtain ⟨A7, c7, hv7, hc7, hC7⟩ := Kd.R_reads hR7; rw [hl1] at hv7 hc7; have H7 := Lib.hid h7; have HR7 := Lib.hid hR7; have HV7 := Lib.hid hv7; have HC7 := Lib.hid hC7; have HB7 := Lib.hid (HB6.out.trans hb7); have hs67 := hb7.size; clear h7 hR7 hC7 hb7; rw [HV7.out])
      obtain ⟨W8, hW8⟩ : ∃ W8, w7.alloc (.cells #[.int .i64 m, .slice A7 n1 c7] 29) = W8 := ⟨_, rfl⟩
      have hb8 : Below w7.heap.size w7 W8 := by rw [← hW8]; exact (Below.refl _ _).alloc (Nat.le_refl _) _
      have hE8 : W8.heap[w7.heap.size]? = some (.cells #[.int .i64 m, .slice A7 n1 c7] 29 (0, 0)) := by rw [← hW8]; exact new_cellsN _ _ _
      have hs8 : W8.heap.size = w7.heap.size + 1 := by rw [← hW8]; simp
      have d0 := cell_cellsN hE8 0 (by simp)
      have d1 := cell_cellsN hE8 1 (by simp)
      dsimp only [List.getElem_toArray, List.getElem_cons_zero, List.getElem_cons_succ] at d0 d1
      have hs7 := HB7.out.size
      have HB8 := Lib.hid (HB7.out.trans (hb8.mono hs7))
      have H8 := Lib.hid ((H7.out.step hb8).sub (av' := fun k => k = w7.heap.size) (fun k hk => .inr (by omega)))
      have KH := Lib.hid (show Calls Try.prog 10 #[.pointer (some ⟨gr, 0, none⟩), .agg #[.int .i64 m, .slice A7 n1 c7]] W8 fun e w' => e = .returned (.bool true) ∧
          Sep w' [sndOb w.heap.size gs ⟨data, m, k, k, m + W⟩, rcvOb w.heap.size gr ⟨W, data.take k, m, n + n1, fun i => (data.take k)[i]?⟩, rowOb w.heap.size (.slice A9 m c9) (data.take m)] (fun _ => False) ∧ w'.heap[w7.heap.size]? = W8.heap[w7.heap.size]? ∧ Below w.heap.size W8 w' from
        (dd_hear_yes m A7 n1 c7 ((data.drop m).take n1) hl1.symm H8.out (by omega) (by have h := Kd.C_below HC7.out hb8; rw [hl1] at h; exact h) hc7 (fun x hx => HB0.out x (List.mem_of_mem_drop (List.mem_of_mem_take hx))) (by show n + 500 ≤ _; omega) (by
            unfold hearB
            dsimp only
            rw [decide_eq_false (by omega), decide_eq_false (by omega), decide_eq_false (by omega), decide_eq_false (by omega), decide_eq_false (by omega)]
            rfl)).mono fun e w' ⟨he, ⟨b', hS⟩, hk, hB⟩ => ⟨he, by
            rw [show fillG (fun i => (data.take m)[i]?) m ((data.drop m).take n1) = fun i => (data.take k)[i]? by rw [fill_prefix (by omega), hkn.2.2.2.2.1]] at hS
            have hb := dd_full hS (l := data.take k) (fun i => rfl)
            dsimp only at hb hS
            subst hb
            rw [hl1] at hS
            exact hS.sub (fun k hk => hk.elim), hk _ rfl, hB⟩)
      have q3 : ∀ V : World, (Builtin.min_ #[3, 3, 3] 3 #[.int .i64 500, .int .i64 (W : Int), .int .i64 ((data.length : Int) - (m : Int))]).run Try.prog V = .ok (.int .i64 n1) V := fun V => run_min3 _ _ _ _ _ (by omega)
      have x1 : IntKind.i64.wrap ((data.length : Int) - (m : Int)) = (data.length : Int) - (m : Int) := i64_of (by omega)
      have x2 : IntKind.i64.wrap ((m : Int) + (n1 : Int)) = (k : Int) := by rw [i64_of (by omega)]; omega
      have q4 : ((m : Int) != (m : Int)) = false := by simp
      have q5 : ((n1 : Int) != (n1 : Int)) = false := by simp
      have e4 : readB ⟨W, data.take k, m, n + n1, fun i => (data.take k)[i]?⟩ 5000 = (data.drop m).take n1 := by
        have hlk : (data.take k).length = k := by rw [List.length_take]; omega
        show ((data.take k).drop m).take (min 5000 ((data.take k).length - m)) = _
        rw [hlk, show min 5000 (k - m) = k - m by omega, take_drop_take (by omega), hn1]
      have e5 : readR ⟨W, data.take k, m, n + n1, fun i => (data.take k)[i]?⟩ 5000 = ⟨W, data.take k, k, n + n1, fun i => (data.take k)[i]?⟩ := by
        have hlk : (data.take k).length = k := by rw [List.length_take]; omega
        show Rc.mk W (data.take k) (m + min 5000 ((data.take k).length - m)) _ _ = _
        rw [hlk, show m + min 5000 (k - m) = k by omega]
      have e6 : data.take m ++ (data.drop m).take n1 = data.take k := by rw [← hn1, take_more (by omega)]
      have E4 := Lib.hid e4
      have E5 := Lib.hid e5
      have E6 := Lib.hid e6
      have HE8 := Lib.hid hE8
      have HL1 := Lib.hid hl1
      rw [hW8]
      clear hb8 hE8 hW8 e4 e5 e6 hl1 hk hk2 hn1
      go_upto_region 21 with (go_at_call 10; refine KH.out.mono ?_; rintro e w9 ⟨rfl, h9, k9, hb9⟩; have H9 := Lib.hid h9; have HB9 := Lib.hid (HB8.out.trans hb9); have hs9 := HB9.out.size; have d9 := cell_cellsN (k9.trans HE8.out) 1 (by simp); dsimp only [List.getElem_toArray, List.getElem_cons_zero, List.getElem_cons_succ] at d9; clear h9 k9 hb9)
      have KR := Lib.hid (show Calls Try.prog 13 #[.pointer (some ⟨gr, 0, none⟩), .int .i64 5000] w9 fun e w' => ∃ A c, e = .returned (.slice A n1 c) ∧ n1 ≤ c ∧ (Kd.int .u8).C w' A n1 ((data.drop m).take n1) ∧
          Sep w' [rowOb w.heap.size (.slice A9 m c9) (data.take m), sndOb w.heap.size gs ⟨data, m, k, k, m + W⟩, rcvOb w.heap.size gr ⟨W, data.take k, k, n + n1, fun i => (data.take k)[i]?⟩] (fun _ => False) ∧ Below w.heap.size w9 w' from (dd_read 5000 H9.out hs9).mono fun e w' ⟨v, he, hR, hS, _, hB⟩ => by
            rw [E4.out] at hR
            rw [E5.out] at hS
            obtain ⟨A, c, hv, hc, hC⟩ := Kd.R_reads hR
            rw [HL1.out] at hv hc hC
            subst hv
            exact ⟨A, c, he, hc, hC, Sep.third (hS.sub (fun k hk => hk.elim)), hB⟩)
      go_wp2_with (first
        | (go_at_call 13; refine KR.out.mono ?_; rintro e w10 ⟨A10, c10, rfl, hc10, hC10, h10, hb10⟩; have HC10 := Lib.hid hC10; have HB10 := Lib.hid (HB9.out.trans hb10); have hs10 := HB10.out.size; obtain ⟨ok10, hR10, hf10, ht10⟩ := row_open h10; have HR10 := Lib.hid hR10; have HF10 := Lib.hid hf10; have HT10 := Lib.hid ht10; clear hC10 h10 hb10 hR10 hf10 ht10)
        | ((with_reducible refine gate_builtin (b := .append) (xs := #[.tmp 99, .tmp 101]) rfl ?_); at_builtin; refine Kd.R_append_row (Value.int .u8) (0 : Int) (w0 := w) w.heap.size rfl (.tmp 99) (.tmp 101) 22 5 (.int .u8 0) 1 rfl Try.underlying22 info8 rfl (by omega) (.slice A9 m c9) (data.take m) ((data.drop m).take n1) A10 n1 c10 ok10 rfl rfl HF10.out HR10.out HC10.out HB10.out hs10 (by omega) ?_; intro v11 w11 ho11 hb11 hg11 hat11; rw [E6.out] at ho11; have H11 := Lib.hid (Sep.back (HT10.out v11 w11 _ ho11 hg11).1); have HB11 := Lib.hid hb11; clear ho11 hb11 hg11 hat11))
      go_roundw
      case rel => exact ⟨i + 1, k, m, m + W, n + n1, rfl, by go_num, by omega, by omega, by omega, by omega, by omega, H11, HB11⟩
      case measure => simp [intOf]; omega
    · have hme : m = data.length := by omega
      have KN := Lib.hid (ss_next_no H6.out (by show min (m + 500) (min data.length (m + W)) ≤ m; omega))
      have KL := Lib.hid (show ∀ V : World, Below w6.heap.size w6 V → Calls Try.prog 18 #[.pointer (some ⟨gs, 0, none⟩)] V fun e w' => e = .returned (.tuple #[.int .i64 0, .int .i64 0]) ∧ ∃ n, w' = V.drewN n from fun V hV => (ss_left (H6.out.step' hV)).mono fun e w' ⟨he, h⟩ => ⟨by
        rw [he]
        dsimp only
        rw [show ((data.length : Nat) : Int) - (m : Int) = 0 by omega, Int.sub_self], h⟩)
      have KC := Lib.hid (show ∀ V : World, Below w6.heap.size w6 V → m ≤ c9 ∧ (Kd.int .u8).C V A9 m (data.take m) from fun V hV => (row_C (Sep.third (H6.out.step' hV))).2)
      have et : data.take m = data := List.take_of_length_le (by omega)
      have KS := Lib.hid (show ∀ V : World, Below w6.heap.size w6 V → Calls Try.prog 12 #[.slice A9 m c9, .slice A0 data.length c0] V fun e w' => e = .returned (.bool true) ∧ Drawn0 V w' from fun V hV => by
        have hC := KC.out V hV
        rw [et, hme] at hC
        rw [hme]
        exact (same_calls V A9 c9 data A0 c0 data hC.2 hC.1 (Kd.C_below HR0.out (HB6.out.trans (hV.mono hs6))) hc0 (by omega)).mono fun e w' ⟨he, hd⟩ => ⟨by rw [he, decide_eq_true rfl], hd⟩)
      clear hme et hml hm
      go_wp2_with (first
        | (go_at_call 17; refine KN.out.mono ?_; rintro e w7 ⟨rfl, hb7⟩; have hs7 := hb7.size; have HB7 := Lib.hid (hb7.trans ((Below.refl w6.heap.size w7).alloc hs7 (.cells #[.int .i64 0, .slice none 0 0] 29))); clear hb7)
        | (go_at_call 18; refine (KL.out _ HB7.out).mono ?_; rintro e w8 ⟨rfl, n8, h8⟩; have HB8 := Lib.hid (show Below w6.heap.size w6 w8 from by rw [h8]; exact below_drN HB7.out n8); clear h8)
        | (go_at_call 12; refine (KS.out _ HB8.out).mono ?_; rintro e w9 ⟨rfl, hd⟩; have HD := Lib.hid (HB6.out.trans ((HB8.out.trans (hd.below.mono HB8.out.size)).mono hs6)); clear hd))
      go_ret
      exact ⟨rfl, HD.out⟩
theorem all_row (A0 : Option Addr) (c0 : Nat) (l0 : List Int) (x : Int) (w : World)
    (hr0 : Kd.C (Kd.int .u8) w A0 l0.length l0) (hc0 : l0.length ≤ c0) (hy0 : l0.length * 1 ≤ 140737488351232) (hw0 : ∀ b ∈ l0, (Lit.int .u8 b).wf = true) (hx : (Lit.int .u16 x).wf = true) :
    Calls Try.prog 4 #[.slice A0 l0.length c0, .int .u16 x] w fun e w' => e = .returned (.bool true) ∧ Below w.heap.size w w' := by
  have hb := wf_bd hx (lo := 0) (hi := 65535) (by decide) (by decide)
  by_cases h : l0.length ≤ 3000
  · exact all_in A0 c0 l0 x w hb hr0 hc0 (fun b hb => wf_bd (hw0 b hb) (by decide) (by decide)) h
  · exact all_early A0 c0 l0 x w hb (by omega) (by omega)
end Go.Proofs.Ytgkcncdanhkkoaa.Fw
