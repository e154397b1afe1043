/-
  TopVouched, plain: a voucher turned or cut is none; what Reserve and Connect answer there. Conditions: as the theorems state them.
  The reference's May at limits: the same limits as resv.May's. No condition.
  trusted (of TopVouched and TopSpent). No condition.
-/
import Derived.Test.YteajlffchdbkjaaMNo
namespace Go.Proofs.Yteajlffchdbkjaa.Re
open Go.RowKit Go.Maps Go.Shelf Go.Proofs.Yteajlffchdbkjaa.Rv Go.Proofs.Yteajlffchdbkjaa.Ci Go.Proofs.Yteajlffchdbkjaa.Sp Go.Proofs.YteajlffchdbkjaaW.PrintWords Go.Proofs.YteajlffchdbkjaaW.PrintLast Go.Proofs.YteajlffchdbkjaaW.PrintMore
set_option linter.unusedVariables false
set_option linter.unusedSimpArgs false
theorem mint_new (r : Int) (t : List Int) (h1 : 1 ≤ r) (h2 : r ≤ 2147483647) : Nt.mintF [] r t = (1, 0, [(r, t)]) := by
  unfold Nt.mintF
  rw [if_neg (by omega), if_neg (by simp)]
  rfl
theorem check_tag (r : Int) (t t' : List Int) (tag : Int) (h : Nt.checkF [(r, t)] r t' tag = 0) : tag = 1 ∧ t' = t := by
  unfold Nt.checkF at h
  split at h
  · cases h
  · rename_i h1
    have h1 : tag = 1 := by simp at h1; omega
    subst h1
    split at h
    · rename_i h2
      simp at h2
      exact ⟨rfl, h2.symm⟩
    · cases h
theorem text_inj {r p u r' p' u' : Int} (h : By.mayF r p u = true) (h' : By.mayF r' p' u' = true) (e : By.textL [r, p, u] = By.textL [r', p', u']) : r = r' ∧ p = p' ∧ u = u' := by
  have e1 := By.textL_each (By.may_nums h)
  rw [e, By.textL_each (By.may_nums h')] at e1
  simp at e1
  exact ⟨e1.1.symm, e1.2.1.symm, e1.2.2.symm⟩
theorem good_one {r p u : Int} (h : By.mayF r p u = true) : By.Good (By.vouchI r p u 1) r p u 1 := ⟨h, by decide, by decide, rfl⟩
theorem check_own {r p u : Int} (h : By.mayF r p u = true) (now : Int) : By.checkV [(r, By.textL [r, p, u])] (By.vouchI r p u 1) r p now = if u ≤ now then (0, 11) else (u, 0) := by
  rw [By.checkV_good (By.readV_good (good_one h)), if_neg (by simp), if_neg]
  unfold Nt.checkF
  rw [if_neg (by simp)]
  simp
/-- Bytes that are not the voucher's own pass for none. -/
theorem check_turned {r p u now : Int} {c : List Int} (h : By.mayF r p u = true) (hc : c ≠ By.vouchI r p u 1) : (By.checkV [(r, By.textL [r, p, u])] c r p now).2 ≠ 0 := by
  rcases By.readV_cases c with ⟨r', p', u', tag, hg, hv⟩ | ⟨_, hv⟩
  · rw [By.checkV_good hv]
    split
    · exact fun e => by cases e
    · rename_i h1
      have h1 : r' = r ∧ p' = p := by
        constructor
        · exact Classical.byContradiction (fun e => h1 (.inl e))
        · exact Classical.byContradiction (fun e => h1 (.inr e))
      obtain ⟨rfl, rfl⟩ := h1
      split
      · exact fun e => by cases e
      · rename_i h2
        have h2 := Classical.byContradiction (fun e => h2 e)
        obtain ⟨ht, hx⟩ := check_tag _ _ _ _ h2
        exfalso
        apply hc
        have hm := text_inj hg.1 h hx
        rw [hg.2.2.2, ht, hm.2.2]
  · rw [By.checkV_bad hv]
    exact fun e => by cases e
theorem check_cut {r p u now : Int} (h : By.mayF r p u = true) {n : Nat} (hn : n < (By.vouchI r p u 1).length) : By.checkV [(r, By.textL [r, p, u])] ((By.vouchI r p u 1).take n) r p now = (0, 3) := by
  refine By.checkV_bad (By.readV_bad (fun r' p' u' tag hg => ?_))
  have he := hg.2.2.2
  have hsplit : By.vouchI r' p' u' tag ++ (By.vouchI r p u 1).drop n = By.vouchI r p u 1 := by rw [← he, List.take_append_drop]
  have hlen : 0 < ((By.vouchI r p u 1).drop n).length := by rw [List.length_drop]; omega
  obtain ⟨rest, hrest⟩ : ∃ rest, (By.vouchI r p u 1).drop n = rest := ⟨_, rfl⟩
  rw [hrest] at hsplit hlen
  have l1 := By.text3_len r' p' u'
  have l2 := By.text3_len r p u
  have f1 : Fr.getF (By.vouchI r p u 1) = (By.textL [r, p, u], ((By.frameI (By.textL [r, p, u])).length : Int), 0) := (By.good_F (good_one h)).1
  have f2 : Fr.getF (By.vouchI r' p' u' tag ++ rest) = (By.textL [r', p', u'], ((Uv.putI ((By.textL [r', p', u']).length : Int)).length : Int) + ((By.textL [r', p', u']).length : Int), 0) := by
    unfold By.vouchI By.frameI
    rw [List.append_assoc, List.append_assoc, Fr.getF_put _ _ (by omega)]
  rw [hsplit, f1] at f2
  have e1 : By.textL [r, p, u] = By.textL [r', p', u'] := congrArg Prod.fst f2
  unfold By.vouchI at hsplit
  rw [← e1, List.append_assoc] at hsplit
  have e2 := List.append_cancel_left hsplit
  have g1 := Uv.getI_put tag rest hg.2.1 hg.2.2.1
  have g2 := Uv.getI_put 1 [] (by decide) (by decide)
  rw [e2] at g1
  rw [List.append_nil, g1] at g2
  have e3 : tag = 1 := congrArg Prod.fst g2
  rw [e3] at e2
  have e4 := congrArg List.length e2
  rw [List.length_append] at e4
  omega
theorem vbytes {r p u tag : Int} (h : By.mayF r p u = true) (h0 : 0 ≤ tag) : Fr.Bytes (By.vouchI r p u tag) := by
  unfold By.vouchI By.frameI
  exact Fr.Bytes.app (Fr.Bytes.app (fun x hx => Uv.putI_bytes _ (by omega) x hx) (By.textL_bytes (fun x hx => (By.may_nums h x hx).1))) (fun x hx => Uv.putI_bytes _ h0 x hx)
theorem vlen (r p u tag : Int) : (By.vouchI r p u tag).length ≤ 50 := by
  unfold By.vouchI By.frameI
  rw [List.length_append, List.length_append]
  have := By.text3_len r p u
  have := Uv.putI_len_le tag
  have := Uv.putI_len_le ((By.textL [r, p, u]).length : Int)
  omega
theorem empty_row (W : World) (base : Nat) (ok : Nat → Prop) (hb : base ≤ W.heap.size) (ho : ok W.heap.size) : (Kd.int .u8).R 5 (W.alloc (.cells #[] 5)) base ok (.slice (some ⟨W.heap.size, 0, none⟩) 0 0) [] := by
  have h := new_cellsN W 5 #[]
  refine ⟨fun k hk => ?_, [], ⟨rfl, .inr ⟨W.heap.size, 0, #[], rfl, hb, h, by simp [Kd.int, Kd.scalar], by simp, by simp⟩⟩, ⟨rfl, fun j p hj => by simp at hj⟩⟩
  have : W.heap.size = k := by simpa [Value.ownBlock] using hk
  rw [← this]; exact ho
theorem byte_set {w : World} {base g n c : Nat} {xs : List Int} {y : Int} (h : (Kd.int .u8).R 5 w base (fun _ => True) (.slice (some ⟨g, 0, none⟩) n c) xs) (i : Nat) (hi : i < xs.length) : (Kd.int .u8).C (w.setCell ⟨g, i, none⟩ (.int .u8 y)) (some ⟨g, 0, none⟩) n (xs.set i y) ∧ w.cell? ⟨g, i, none⟩ = some (.int .u8 xs[i]) ∧ w.frozen? ⟨g, i, none⟩ = false ∧ base ≤ g ∧ n = xs.length ∧ n ≤ c := by
  obtain ⟨hC, hn, hc⟩ := By.R_C h
  have add0 : ∀ j : Nat, (⟨g, 0, none⟩ : Addr).add j = ⟨g, j, none⟩ := fun j => by rw [Addr.add_lit, Nat.zero_add]
  have hcell : ∀ j (hj : j < xs.length), w.cell? ⟨g, j, none⟩ = some (.int .u8 xs[j]) := fun j hj => by
    obtain ⟨ad, e, hx⟩ := By.cell_of_C hC j hj hn
    injection e with e
    subst e
    rw [← hx, add0]
  obtain ⟨inner, ho⟩ := Kd.R_own h
  have hfz : w.frozen? ⟨g, i, none⟩ = false ∧ base ≤ g := by
    rcases ho.2 with ⟨e, _⟩ | ⟨g', cap, cur, e, hb, hg, _⟩
    · cases e
    · cases e
      exact ⟨frozen_cellsN hg _, hb⟩
  refine ⟨?_, hcell i hi, hfz.1, hfz.2, hn, hc⟩
  refine Kd.C_of_reads (d := (0 : Int)) (h1 := fun _ => rfl) ⟨by rw [List.length_set]; exact hn.symm, hC.2.1, fun _ => ⟨_, rfl, fun j hj => ?_⟩⟩
  have hjx : j < xs.length := by omega
  by_cases hj2 : j = i
  · subst hj2
    rw [add0, World.cell?_setCell_same' _ _ _ (by rw [hcell j hi]; rfl)]
    simp [hi]
  · rw [add0]
    have hne : (⟨g, i, none⟩ : Addr) ≠ ⟨g, j, none⟩ := fun e => hj2 (congrArg Addr.off e).symm
    have h5 : (w.setCell ⟨g, i, none⟩ (.int .u8 y)).cell? ⟨g, j, none⟩ = w.cell? ⟨g, j, none⟩ := by apply World.cell?_setCell_other; exact hne
    rw [h5, hcell j hjx]
    rw [List.getD_eq_getElem?_getD, List.getElem?_set_ne (fun e => hj2 e.symm), List.getElem?_eq_getElem hjx]
    rfl
/-- The notary of a relay, alone. -/
theorem RelK.one {k : Nat} {w : World} {r gN : Nat} {s : RelS} {av : Nat → Prop} (h : RelK k w r gN s av) : ∃ base, Nt.OneAt w base gN s.N av := by
  obtain ⟨base, gR, bR, nR, gC, ⟨o1, a1, a2, a3, o2, b1, b2, b3, o3, c1, c2, c3, hd⟩, _⟩ := h
  exact ⟨base, o3, c1, c2, fun k hk => ⟨Sep.lt hd k (.inl (.inl (.inl hk))), c3 k (.inl (.inl hk))⟩⟩
/-- vouch.Check beside the relay. -/
theorem check_k {k : Nat} {w : World} {r gN : Nat} {s : RelS} {av : Nat → Prop} (h : RelK k w r gN s av) (hk : k ≤ 9000) (A : Option Addr) (n c : Nat) (b : List Int) (relay peer now : Int) (hn : n = b.length) (hr : (Kd.int .u8).C w A n b) (hc : n ≤ c) (hb : Fr.Bytes b) (hl : n ≤ 1000000) :
    Calls Try.prog 13 #[.pointer (some ⟨gN, 0, none⟩), .slice A n c, .int .i64 relay, .int .i64 peer, .int .i64 now] w fun e w' => e = .returned (.tuple #[.int .i64 (By.checkV s.N b relay peer now).1, .int .i64 (By.checkV s.N b relay peer now).2]) ∧ Below w.heap.size w w' := by
  obtain ⟨base, ho⟩ := h.one
  exact By.vcheck_calls w base gN s.N av A n c b relay peer now ho (Nat.le_trans h.inv.nlen (by omega)) hn hr hc hb hl
/-! ### trusted -/
abbrev limT : LimV := (1, 1, 1, 10, 10, 10)
theorem tr1 : ResT (newS 9 limT []) 0 2 5 = (10, 0, ⟨9, limT, [(2, 5, 10)], 0, [], [], 0, 0, (Nt.mintF [] 9 (By.textL [9, 2, 10])).2.2, 0⟩) := by kernel_rfl
theorem tr2 : resTag (newS 9 limT []) 0 2 5 = 1 := by
  show (Nt.mintF [] 9 (By.textL [9, 2, (resG limT (overL [] 0) 0 2 5).1])).1 = 1
  rw [mint_new _ _ (by decide) (by decide)]
theorem tr3 : By.mayF 9 2 10 = true := by decide
/-- The first reservation of TopVouched. -/
theorem top_res (l : LimV) (hl : 1 ≤ l.2.2.2.1 ∧ l.2.2.2.1 ≤ 1073741824) (host : Int) (hh : host ≠ 0) :
    (l.2.1 ≤ 0 ∧ (ResT (newS 9 l []) 5 2 host).2.1 = 7 ∨ l.1 ≤ 0 ∧ (ResT (newS 9 l []) 5 2 host).2.1 = 10) ∨
    (ResT (newS 9 l []) 5 2 host = (5 + l.2.2.2.1, 0, ⟨9, l, [(2, host, 5 + l.2.2.2.1)], 5, [], [], 0, 0, [(9, By.textL [9, 2, 5 + l.2.2.2.1])], 5⟩) ∧ resTag (newS 9 l []) 5 2 host = 1) := by
  have hb : ¬ resBad (newS 9 l []) 5 2 host := by unfold resBad isPeer newS; dsimp only; omega
  obtain ⟨f1, f2, f3⟩ := first_res l hl 5 2 host (by omega)
  unfold ResT
  rw [if_neg hb]
  by_cases h1 : l.2.1 ≤ 0
  · left; left
    exact ⟨h1, by rw [ResF_no (s := newS 9 l []) (f1 h1) (by decide)]⟩
  · by_cases h2 : l.1 ≤ 0
    · left; right
      exact ⟨h2, by rw [ResF_no (s := newS 9 l []) (f2 h1 h2) (by decide)]⟩
    · right
      have hq := f3 h1 h2
      have hm := mint_new 9 (By.textL [9, 2, 5 + l.2.2.2.1]) (by decide) (by decide)
      refine ⟨?_, ?_⟩
      · rw [ResF_yes (s := newS 9 l []) hq]
        show (_, _, ({ own := 9, l := l, R := _, tR := 5, C := [], G := [], last := 0, tC := 0, N := (Nt.mintF [] 9 (By.textL [9, 2, 5 + l.2.2.2.1])).2.2, now := 5 } : RelS)) = _
        rw [hm]
      · unfold resTag
        have hq' : resG (newS 9 l []).l (overL (newS 9 l []).R 5) 5 2 host = (5 + l.2.2.2.1, 0, [(2, host, 5 + l.2.2.2.1)]) := hq
        rw [hq']
        show (Nt.mintF [] 9 (By.textL [9, 2, 5 + l.2.2.2.1])).1 = 1
        rw [hm]
/-- Connect behind it. -/
theorem top_con (l : LimV) (hl : mayL l = true) (host u now : Int) (N : List Nt.Ent) (h5 : 5 ≤ now) (hn : now ≤ 1099511627776) :
    (u ≤ now ∧ (ConT ⟨9, l, [(2, host, u)], 5, [], [], 0, 0, N, 5⟩ now 3 2).2.1 = 5) ∨ (¬ u ≤ now ∧ l.2.2.1 ≤ 0 ∧ (ConT ⟨9, l, [(2, host, u)], 5, [], [], 0, 0, N, 5⟩ now 3 2).2.1 = 10) ∨ (¬ u ≤ now ∧ ¬ l.2.2.1 ≤ 0 ∧ (ConT ⟨9, l, [(2, host, u)], 5, [], [], 0, 0, N, 5⟩ now 3 2).2.1 = 0) := by
  have hb : ¬ conBad ⟨9, l, [(2, host, u)], 5, [], [], 0, 0, N, 5⟩ now 3 2 := by unfold conBad isPeer; dsimp only; omega
  unfold ConT
  rw [if_neg hb]
  by_cases h1 : u ≤ now
  · left
    refine ⟨h1, ?_⟩
    unfold ConF
    rw [show overL [(2, host, u)] now = [] by rw [over_one, if_pos h1]]
    rfl
  · right
    have ho : overL [(2, host, u)] now = [(2, host, u)] := by rw [over_one, if_neg h1]
    have hh : hasL [(2, host, u)] 2 = true := rfl
    have hall := openG_all l.2.2.1 l.2.2.2.2.1 (liveC [] now) 0 now 3 2 ((getL [(2, host, u)] 2).2.2 + 30)
    unfold ConF
    dsimp only
    rw [ho, if_pos hh]
    by_cases h2 : l.2.2.1 ≤ 0
    · left
      exact ⟨h1, h2, by dsimp only; rw [hall.2.1 rfl (by show l.2.2.1 ≤ ((0 : Nat) : Int); omega)]⟩
    · right
      exact ⟨h1, h2, by dsimp only; rw [hall.2.2 rfl (by show ¬ l.2.2.1 ≤ ((0 : Nat) : Int); omega)]⟩
end Go.Proofs.Yteajlffchdbkjaa.Re
namespace Go.Proofs.Yteajlffchdbkjaa.Re
open Go.RowKit Go.Maps Go.Shelf Go.Proofs.Yteajlffchdbkjaa.Rv Go.Proofs.Yteajlffchdbkjaa.Ci Go.Proofs.Yteajlffchdbkjaa.Sp Go.Proofs.YteajlffchdbkjaaW.PrintWords Go.Proofs.YteajlffchdbkjaaW.PrintLast Go.Proofs.YteajlffchdbkjaaW.PrintMore
set_option linter.unusedVariables false
set_option linter.unusedSimpArgs false
attribute [local go_sem] Oper.semAt_some
set_option maxRecDepth 100000 in
set_option maxHeartbeats 8000000 in
theorem refmay_calls (W : World) (a b c d e f : Int) :
    Calls Try.prog 9 #[.agg #[.int .i64 a, .int .i64 b, .int .i64 c, .int .i64 d, .int .i64 e, .int .i64 f]] W fun en w' => en = .returned (.bool (mayL (a, b, c, d, e, f))) ∧ Below W.heap.size W w' := by
  obtain ⟨X, hX⟩ : ∃ X, W.alloc (.cells #[.int .i64 a, .int .i64 b, .int .i64 c, .int .i64 d, .int .i64 e, .int .i64 f] 23) = X := ⟨_, rfl⟩
  have hb : Below W.heap.size W X := by rw [← hX]; exact (Below.refl _ _).alloc (Nat.le_refl _) _
  have hc := new_cellsN W 23 #[.int .i64 a, .int .i64 b, .int .i64 c, .int .i64 d, .int .i64 e, .int .i64 f]
  rw [hX] at hc
  obtain ⟨c0, c1, c2, c3, c4, c5⟩ := limC_cells hc
  have HB := Lib.hid hb
  obtain ⟨m, hm⟩ : ∃ m, mayL (a, b, c, d, e, f) = m := ⟨_, rfl⟩
  have hiff := mayL_iff (a, b, c, d, e, f)
  rw [hm] at hiff ⊢
  dsimp only at hiff
  have HI := Lib.hid hiff
  clear hb hc hiff hm
  by_cases h0 : a < 0
  · have b0 : decide (a < 0) = true := decide_eq_true h0
    obtain rfl : m = false := by cases m with | false => rfl | true => have := HI.out.1 rfl; omega
    clear h0
    go_enter Try.func9, Try.ntmps9
    go_wp2
    go_ret
    exact ⟨rfl, HB.out⟩
  · have b0 : decide (a < 0) = false := decide_eq_false h0
    by_cases h1 : a > 100
    · have b1 : decide (a > 100) = true := decide_eq_true h1
      obtain rfl : m = false := by cases m with | false => rfl | true => have := HI.out.1 rfl; omega
      clear h0 h1
      go_enter Try.func9, Try.ntmps9
      go_wp2
      go_ret
      exact ⟨rfl, HB.out⟩
    · have b1 : decide (a > 100) = false := decide_eq_false h1
      by_cases h2 : b < 0
      · have b2 : decide (b < 0) = true := decide_eq_true h2
        obtain rfl : m = false := by cases m with | false => rfl | true => have := HI.out.1 rfl; omega
        clear h0 h1 h2
        go_enter Try.func9, Try.ntmps9
        go_wp2
        go_ret
        exact ⟨rfl, HB.out⟩
      · have b2 : decide (b < 0) = false := decide_eq_false h2
        by_cases h3 : b > 100
        · have b3 : decide (b > 100) = true := decide_eq_true h3
          obtain rfl : m = false := by cases m with | false => rfl | true => have := HI.out.1 rfl; omega
          clear h0 h1 h2 h3
          go_enter Try.func9, Try.ntmps9
          go_wp2
          go_ret
          exact ⟨rfl, HB.out⟩
        · have b3 : decide (b > 100) = false := decide_eq_false h3
          by_cases h4 : c < 0
          · have b4 : decide (c < 0) = true := decide_eq_true h4
            obtain rfl : m = false := by cases m with | false => rfl | true => have := HI.out.1 rfl; omega
            clear h0 h1 h2 h3 h4
            go_enter Try.func9, Try.ntmps9
            go_wp2
            go_ret
            exact ⟨rfl, HB.out⟩
          · have b4 : decide (c < 0) = false := decide_eq_false h4
            by_cases h5 : c > 100
            · have b5 : decide (c > 100) = true := decide_eq_true h5
              obtain rfl : m = false := by cases m with | false => rfl | true => have := HI.out.1 rfl; omega
              clear h0 h1 h2 h3 h4 h5
              go_enter Try.func9, Try.ntmps9
              go_wp2
              go_ret
              exact ⟨rfl, HB.out⟩
            · have b5 : decide (c > 100) = false := decide_eq_false h5
              by_cases h6 : f < 0
              · have b6 : decide (f < 0) = true := decide_eq_true h6
                obtain rfl : m = false := by cases m with | false => rfl | true => have := HI.out.1 rfl; omega
                clear h0 h1 h2 h3 h4 h5 h6
                go_enter Try.func9, Try.ntmps9
                go_wp2
                go_ret
                exact ⟨rfl, HB.out⟩
              · have b6 : decide (f < 0) = false := decide_eq_false h6
                by_cases h7 : f > 1073741824
                · have b7 : decide (f > 1073741824) = true := decide_eq_true h7
                  obtain rfl : m = false := by cases m with | false => rfl | true => have := HI.out.1 rfl; omega
                  clear h0 h1 h2 h3 h4 h5 h6 h7
                  go_enter Try.func9, Try.ntmps9
                  go_wp2
                  go_ret
                  exact ⟨rfl, HB.out⟩
                · have b7 : decide (f > 1073741824) = false := decide_eq_false h7
                  by_cases h8 : d ≥ 1
                  rotate_left
                  · have b8 : decide (d ≥ 1) = false := decide_eq_false h8
                    obtain rfl : m = false := by cases m with | false => rfl | true => have := HI.out.1 rfl; omega
                    clear h0 h1 h2 h3 h4 h5 h6 h7 h8
                    go_enter Try.func9, Try.ntmps9
                    go_wp2
                    go_ret
                    exact ⟨rfl, HB.out⟩
                  · have b8 : decide (d ≥ 1) = true := decide_eq_true h8
                    by_cases h9 : d ≤ 1099511627776
                    rotate_left
                    · have b9 : decide (d ≤ 1099511627776) = false := decide_eq_false h9
                      obtain rfl : m = false := by cases m with | false => rfl | true => have := HI.out.1 rfl; omega
                      clear h0 h1 h2 h3 h4 h5 h6 h7 h8 h9
                      go_enter Try.func9, Try.ntmps9
                      go_wp2
                      go_ret
                      exact ⟨rfl, HB.out⟩
                    · have b9 : decide (d ≤ 1099511627776) = true := decide_eq_true h9
                      by_cases h10 : e ≥ 1
                      rotate_left
                      · have b10 : decide (e ≥ 1) = false := decide_eq_false h10
                        obtain rfl : m = false := by cases m with | false => rfl | true => have := HI.out.1 rfl; omega
                        clear h0 h1 h2 h3 h4 h5 h6 h7 h8 h9 h10
                        go_enter Try.func9, Try.ntmps9
                        go_wp2
                        go_ret
                        exact ⟨rfl, HB.out⟩
                      · have b10 : decide (e ≥ 1) = true := decide_eq_true h10
                        by_cases h11 : e ≤ 1099511627776
                        rotate_left
                        · have b11 : decide (e ≤ 1099511627776) = false := decide_eq_false h11
                          obtain rfl : m = false := by cases m with | false => rfl | true => have := HI.out.1 rfl; omega
                          clear h0 h1 h2 h3 h4 h5 h6 h7 h8 h9 h10 h11
                          go_enter Try.func9, Try.ntmps9
                          go_wp2
                          go_ret
                          exact ⟨rfl, HB.out⟩
                        · have b11 : decide (e ≤ 1099511627776) = true := decide_eq_true h11
                          obtain rfl : m = true := by cases m with | true => rfl | false => exact absurd (HI.out.2 (by omega)) (by decide)
                          clear h0 h1 h2 h3 h4 h5 h6 h7 h8 h9 h10 h11
                          go_enter Try.func9, Try.ntmps9
                          go_wp2
                          go_ret
                          exact ⟨rfl, HB.out⟩
end Go.Proofs.Yteajlffchdbkjaa.Re
namespace Go.Proofs.Yteajlffchdbkjaa.Re
open Go.RowKit Go.Maps Go.Shelf Go.Proofs.Yteajlffchdbkjaa.Rv Go.Proofs.Yteajlffchdbkjaa.Ci Go.Proofs.Yteajlffchdbkjaa.Sp Go.Proofs.YteajlffchdbkjaaW.PrintWords Go.Proofs.YteajlffchdbkjaaW.PrintLast Go.Proofs.YteajlffchdbkjaaW.PrintMore
set_option linter.unusedVariables false
set_option linter.unusedSimpArgs false
attribute [local go_sem] Oper.semAt_some
set_option maxRecDepth 100000 in
set_option maxHeartbeats 4000000 in
theorem trusted_calls (W : World) : Calls Try.prog 8 #[] W fun e w' => e = .returned (.bool true) ∧ Below W.heap.size W w' := by
  have K1 := Lib.hid (Nt.one_new W)
  have q25 := ptr_nil
  go_enter Try.func8, Try.ntmps8
  go_upto_region 2 with (go_at_call 10; refine K1.out.mono ?_; rintro e w1 ⟨gN, rfl, hN, hb⟩; have HN := Lib.hid hN; have HB1 := Lib.hid hb; clear hN hb)
  have K2 := Lib.hid (new_k 9 1 1 1 10 10 10 gN HN.out (by kernel_rfl) (by decide))
  go_upto_region 5 with (go_at_call 11; refine K2.out.mono ?_; rintro e w2 ⟨r, rfl, hr, hb⟩; have HK2 := Lib.hid hr; have HB2 := Lib.hid hb; clear hr hb)
  have k3 := res_k HK2.out (by omega) 0 2 5
  unfold ResK at k3
  rw [tr1, tr2] at k3
  have K3 := Lib.hid k3
  clear k3 K1 K2
  go_upto_region 6 with (go_at_call 12; refine K3.out.mono ?_; rintro e w3 ⟨v, sz, rfl, hR, hsz, hk, hkp⟩; have HR3 := Lib.hid (hR rfl); have HK3 := Lib.hid hk; have HP3 := Lib.hid hkp; clear hR hsz hk hkp)
  obtain ⟨A3, c3, hv3, hc3, hC3⟩ := Kd.R_reads HR3.out
  obtain ⟨m3, hm3⟩ : ∃ m, (By.vouchI (newS 9 limT []).own 2 10 1).length = m := ⟨_, rfl⟩
  have hml : m3 ≤ 50 := by rw [← hm3]; exact vlen _ _ _ _
  rw [hm3] at hv3 hc3 hC3
  subst hv3
  have k4 := check_k HK3.out (by omega) A3 m3 c3 (By.vouchI 9 2 10 1) 9 2 0 hm3.symm hC3 hc3 (vbytes tr3 (by decide)) (by omega)
  dsimp only at k4
  rw [mint_new _ _ (by decide) (by decide), check_own tr3, if_neg (by decide)] at k4
  have K4 := Lib.hid k4
  clear k4 hm3 hc3 hC3 K3
  go_wp2_with (go_at_call 13; refine K4.out.mono ?_; rintro e w4 ⟨rfl, hb⟩; have HB4 := Lib.hid hb; clear hb)
  go_ret
  have hb2 := HB1.out.trans (HB2.out.mono HB1.out.size)
  have hb3 := hb2.trans (HP3.out.toBelow (fun i hi => hi) hb2.size)
  exact ⟨rfl, hb3.trans (HB4.out.mono hb3.size)⟩
end Go.Proofs.Yteajlffchdbkjaa.Re
