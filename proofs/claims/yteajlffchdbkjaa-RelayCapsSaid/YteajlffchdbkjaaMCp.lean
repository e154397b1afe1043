/-
  RelayCaps, plain: what no step breaks. Conditions: as the theorems state them.
  Equality of two circuits: the same cells are told to be equal. Conditions: as the theorems state them.
  RelayCaps: scripts: whether their steps are small (small); rows that are alike are told to be the same (Helds, Same). Conditions: as the theorems state them.
  RelayCaps walked. Conditions: numbers are of their kinds; what came in is read.
  RelayCaps, as its row wants it. No condition.
-/
import Derived.Test.YteajlffchdbkjaaMNo
import Derived.Test.YteajlffchdbkjaaProg
import Derived.Test.YteajlffchdbkjaaWEqStruct
import Derived.Laws.Cover3
import Derived.Test.YteajlffchdbkjaaOp
import Derived.Deep.QuietTactic
import Derived.Deep.CutRange
import Derived.BigQuiet
import Derived.Laws.MakeOwn
namespace Go.Proofs.Yteajlffchdbkjaa.Re
open Go.RowKit Go.Maps Go.Shelf Go.Proofs.Yteajlffchdbkjaa.Rv Go.Proofs.Yteajlffchdbkjaa.Ci Go.Proofs.Yteajlffchdbkjaa.Sp Go.Proofs.YteajlffchdbkjaaW.PrintWords Go.Proofs.YteajlffchdbkjaaW.PrintLast Go.Proofs.YteajlffchdbkjaaW.PrintMore
set_option linter.unusedVariables false
set_option linter.unusedSimpArgs false
theorem liveC_self (L : List CirP) (t : Int) : liveC (liveC L t) t = liveC L t := by unfold liveC; rw [List.filter_filter]; congr 1; funext c; simp
theorem liveC_len (L : List CirP) (t : Int) : (liveC L t).length ≤ L.length := List.length_filter_le _ _
theorem overL_self (L : List HeldP) (t : Int) : overL (overL L t) t = overL L t := by unfold overL; rw [List.filter_filter]; congr 1; funext c; simp
theorem putL_has {L : List HeldP} (h : HeldP) (hh : hasL L h.1 = true) : (putL L h).length ≤ L.length := by
  unfold putL
  rw [insL_len]
  obtain ⟨x, hx, he⟩ := List.any_eq_true.1 hh
  exact List.length_filter_lt_length_iff_exists.2 ⟨x, hx, by simpa using he⟩
/-- What resG does with the rows. -/
theorem resG_fits (l : LimV) (L : List HeldP) (t p host : Int) : ((resG l L t p host).2.1 ≠ 0 ∧ (resG l L t p host).2.2 = L) ∨ ((resG l L t p host).2.1 = 0 ∧ ((L.length : Int) ≤ l.1 → ((resG l L t p host).2.2.length : Int) ≤ l.1)) := by
  unfold resG
  split
  · exact .inl ⟨(fun h => by cases h), rfl⟩
  · split
    · exact .inl ⟨(fun h => by cases h), rfl⟩
    · rename_i h1 h2
      refine .inr ⟨rfl, fun hl => ?_⟩
      dsimp only
      cases hh : hasL L p with
      | true => have := putL_has (p, host, capT (t + l.2.2.2.1)) hh; omega
      | false =>
        have := putL_len L (p, host, capT (t + l.2.2.2.1))
        have := Int.not_le.1 (fun hx => h2 ⟨hh, hx⟩)
        omega
structure CapInv (own : Int) (l : LimV) (i : Nat) (E : List Int) (s : RelS) : Prop where
  own : s.own = own
  lim : s.l = l
  rcap : (s.R.length : Int) ≤ l.1
  ccap : (s.C.length : Int) ≤ l.2.2.1
  last : s.last ≤ i
  ok : ∀ c ∈ s.C, 1 ≤ c.1 ∧ c.1 ≤ s.last ∧ c.2.2.2.1 ≤ E.getD c.1.toNat 0
theorem CapInv.mono {own : Int} {l : LimV} {i j : Nat} {E : List Int} {s : RelS} (h : CapInv own l i E s) (hj : i ≤ j) : CapInv own l j E s := ⟨h.own, h.lim, h.rcap, h.ccap, by have := h.last; omega, h.ok⟩
theorem cap_new (own : Int) {l : LimV} (h : mayL l = true) (E : List Int) : CapInv own l 0 E (newS own l []) := by
  have hml := (mayL_iff l).1 h
  exact ⟨rfl, rfl, by show ((0 : Nat) : Int) ≤ _; omega, by show ((0 : Nat) : Int) ≤ _; omega, Int.le_refl _, (fun c hc => by cases hc)⟩
theorem cap_st {own : Int} {l : LimV} {i : Nat} {E : List Int} {s : RelS} (h : CapInv own l i E s) (t : Int) : CapInv own l i E (StF s t) := by
  have h1 := h.rcap
  have h2 := h.ccap
  have h3 := overL_len s.R t
  have h4 := liveC_len s.C t
  exact ⟨h.own, h.lim, by show ((overL s.R t).length : Int) ≤ _; omega, by show ((liveC s.C t).length : Int) ≤ _; omega, h.last, fun c hc => h.ok c (liveC_mem hc).1⟩
/-- What stands after State: nothing is over. -/
theorem st_self (s : RelS) (t : Int) : overL (StF s t).R t = (StF s t).R ∧ liveC (StF s t).C t = (StF s t).C ∧ goneC (StF s t).C t = [] :=
  ⟨overL_self _ _, liveC_self _ _, (live_all (fun c hc => (liveC_mem hc).2)).2⟩
theorem cap_res {own : Int} {l : LimV} {i : Nat} {E : List Int} {s : RelS} {t : Int} (h : CapInv own l i E s) (hR : overL s.R t = s.R) (hC : liveC s.C t = s.C) (p host : Int) :
    CapInv own l i E (ResT s t p host).2.2 ∧ ((ResT s t p host).2.1 ≠ 0 → overL (ResT s t p host).2.2.R t = s.R ∧ liveC (ResT s t p host).2.2.C t = s.C) := by
  unfold ResT
  split
  · exact ⟨h, fun _ => ⟨hR, hC⟩⟩
  · have hf := resG_fits s.l (overL s.R t) t p host
    rw [hR] at hf
    unfold ResF
    rw [hR]
    split
    · rename_i h0
      rcases hf with ⟨hf, _⟩ | ⟨_, hf⟩
      · exact absurd h0 hf
      · refine ⟨⟨h.own, h.lim, ?_, h.ccap, h.last, h.ok⟩, fun hn => absurd rfl hn⟩
        have := hf (by rw [h.lim]; exact h.rcap)
        rw [h.lim] at this ⊢
        exact this
    · rename_i h0
      rcases hf with ⟨_, hf⟩ | ⟨hf, _⟩
      · refine ⟨⟨h.own, h.lim, ?_, h.ccap, h.last, h.ok⟩, fun _ => ⟨?_, hC⟩⟩
        · show (((resG s.l s.R t p host).2.2).length : Int) ≤ _
          rw [hf]; exact h.rcap
        · show overL (resG s.l s.R t p host).2.2 t = _
          rw [hf]; exact hR
      · exact absurd hf h0
theorem cap_con {own : Int} {l : LimV} {i : Nat} {E : List Int} {s : RelS} {t : Int} (h : CapInv own l i E s) (hi : i < 101) (hE : E.length = 102) (h0 : 0 ≤ s.last) (hR : overL s.R t = s.R) (hC : liveC s.C t = s.C) (hG : goneC s.C t = []) (a b : Int) :
    ((ConT s t a b).2.1 ≠ 0 ∧ CapInv own l i E (ConT s t a b).2.2 ∧ overL (ConT s t a b).2.2.R t = s.R ∧ liveC (ConT s t a b).2.2.C t = s.C) ∨
    ((ConT s t a b).2.1 = 0 ∧ (ConT s t a b).1 = s.last + 1 ∧ hasL s.R b = true ∧ t < (getL s.R b).2.2 ∧ (getL s.R b) ∈ s.R ∧ CapInv own l (i + 1) (E.set (s.last + 1).toNat ((getL s.R b).2.2 + 30)) (ConT s t a b).2.2) := by
  unfold ConT
  by_cases hb : conBad s t a b
  · rw [if_pos hb]
    exact .inl ⟨(fun e => by cases e), h, hR, hC⟩
  · rw [if_neg hb]
    unfold ConF
    by_cases hh : hasL (overL s.R t) b = true
    · have hlive := getL_live hh
      rw [if_pos hh, hC, hG, List.append_nil]
      rw [hR] at hlive hh
      rw [hR]
      obtain ⟨u, hu⟩ : ∃ u, (getL s.R b).2.2 = u := ⟨_, rfl⟩
      rw [hu] at hlive ⊢
      obtain ⟨f1, f2, f3⟩ := openG_all s.l.2.2.1 s.l.2.2.2.2.1 s.C s.last t a b (u + 30)
      cases hany : s.C.any (isBetween a b) with
      | true =>
        rw [f1 hany]
        exact .inl ⟨(fun e => by cases e), ⟨h.own, h.lim, h.rcap, h.ccap, h.last, h.ok⟩, hR, hC⟩
      | false =>
        by_cases hc : s.l.2.2.1 ≤ (s.C.length : Int)
        · rw [f2 hany hc]
          exact .inl ⟨(fun e => by cases e), ⟨h.own, h.lim, h.rcap, h.ccap, h.last, h.ok⟩, hR, hC⟩
        · rw [f3 hany hc]
          have hl := h.last
          refine .inr ⟨rfl, rfl, hh, hlive.2, hlive.1, h.own, h.lim, h.rcap, ?_, ?_, fun c hc2 => ?_⟩
          · show ((s.C ++ [_]).length : Int) ≤ _
            rw [List.length_append, List.length_singleton, ← h.lim]
            omega
          · show s.last + 1 ≤ ((i + 1 : Nat) : Int)
            omega
          · show 1 ≤ c.1 ∧ c.1 ≤ s.last + 1 ∧ _
            rcases List.mem_append.1 hc2 with hc2 | hc2
            · obtain ⟨k1, k2, k3⟩ := h.ok c hc2
              refine ⟨k1, by omega, ?_⟩
              rw [List.getD_eq_getElem?_getD, List.getElem?_set_ne (by omega), ← List.getD_eq_getElem?_getD]
              exact k3
            · rw [List.mem_singleton.1 hc2]
              dsimp only
              refine ⟨by omega, Int.le_refl _, ?_⟩
              rw [List.getD_eq_getElem?_getD, List.getElem?_set_self (by omega), Option.getD_some]
              split <;> omega
    · rw [if_neg hh]
      exact .inl ⟨(fun e => by cases e), ⟨h.own, h.lim, by show ((overL s.R t).length : Int) ≤ _; rw [hR]; exact h.rcap, h.ccap, h.last, h.ok⟩, by show overL (overL s.R t) t = _; rw [hR, hR], hC⟩
theorem cap_fwd {own : Int} {l : LimV} {i : Nat} {E : List Int} {s : RelS} {t : Int} (h : CapInv own l i E s) (hC : liveC s.C t = s.C) (no frm size : Int) :
    CapInv own l i E (FwdF s t no frm size).2.2 ∧ ((FwdF s t no frm size).2.1 = 0 → 1 ≤ no ∧ no ≤ s.last ∧ t < E.getD no.toNat 0) := by
  unfold FwdF
  rw [hC]
  dsimp only
  have hrow : ∀ C' : List CirP, C'.length ≤ s.C.length → (∀ c ∈ C', ∃ c0 ∈ s.C, c.1 = c0.1 ∧ c.2.2.2.1 = c0.2.2.2.1) → CapInv own l i E { s with now := t, C := C', G := s.G ++ goneC s.C t, tC := t } := fun C' h1 h2 =>
    ⟨h.own, h.lim, h.rcap, by have := h.ccap; show (C'.length : Int) ≤ _; omega, h.last, fun c hc => by
      obtain ⟨c0, h3, h4, h5⟩ := h2 c hc
      have := h.ok c0 h3
      show 1 ≤ c.1 ∧ c.1 ≤ s.last ∧ c.2.2.2.1 ≤ E.getD c.1.toNat 0
      rw [h4, h5]
      exact this⟩
  have same := hrow s.C (Nat.le_refl _) (fun c hc => ⟨c, hc, rfl, rfl⟩)
  have gone : ∀ k, CapInv own l i E { s with now := t, C := s.C.eraseIdx k, G := s.G ++ goneC s.C t, tC := t } := fun k => hrow _ (by rw [List.length_eraseIdx]; split <;> omega) (fun c hc => ⟨c, List.mem_of_mem_eraseIdx hc, rfl, rfl⟩)
  have more : ∀ (k : Nat) (c' : CirP) (c0 : CirP), c0 ∈ s.C → c'.1 = c0.1 → c'.2.2.2.1 = c0.2.2.2.1 → CapInv own l i E { s with now := t, C := s.C.set k c', G := s.G ++ goneC s.C t, tC := t } := fun k c' c0 hc0 e1 e2 => hrow _ (by simp) (fun c hc => by
    rcases List.mem_or_eq_of_mem_set hc with hc | rfl
    · exact ⟨c, hc, rfl, rfl⟩
    · exact ⟨c0, hc0, e1, e2⟩)
  have hmem : ∀ c : CirP, s.C[(posC s.C no).toNat]? = some c → ¬ posC s.C no < 0 → 1 ≤ no ∧ no ≤ s.last ∧ t < E.getD no.toNat 0 := fun c hc hp => by
    rcases posC_spec s.C no with ⟨hq, _⟩ | ⟨k, hk, hq, h1, _⟩
    · exact absurd (by rw [hq]; decide) hp
    · have hm := List.getElem_mem hk
      have hl : s.C[k] ∈ liveC s.C t := by rw [hC]; exact hm
      have h2 := (liveC_mem hl).2
      have h3 := h.ok _ hm
      rw [h1] at h3
      exact ⟨h3.1, h3.2.1, by omega⟩
  unfold fwdG
  split
  · exact ⟨same, fun e => by cases e⟩
  · rename_i c hc
    have hci := List.mem_of_getElem? hc
    split
    · exact ⟨same, fun e => by cases e⟩
    · rename_i hp
      have hp' : ¬ posC s.C no < 0 := fun e => hp (.inl e)
      split
      · split
        · exact ⟨gone _, fun e => by cases e⟩
        · exact ⟨more _ _ c hci rfl rfl, fun _ => hmem c hc hp'⟩
      · split
        · exact ⟨gone _, fun e => by cases e⟩
        · exact ⟨more _ _ c hci rfl rfl, fun _ => hmem c hc hp'⟩
/-! ### the ends, round by round -/
def endK (h : List HeldP) (b : Int) (E : List Int) (n : Nat) (v : Int) (k : Nat) : List Int := if (h.take k).any (fun q => decide (q.1 = b)) then E.set n v else E
theorem endK_zero (h : List HeldP) (b : Int) (E : List Int) (n : Nat) (v : Int) : endK h b E n v 0 = E := by simp [endK]
theorem endK_len (h : List HeldP) (b : Int) (E : List Int) (n : Nat) (v : Int) (k : Nat) : (endK h b E n v k).length = E.length := by
  unfold endK
  split <;> simp
theorem endK_yes {h : List HeldP} (b : Int) (E : List Int) (n : Nat) (v : Int) {k : Nat} (hk : k < h.length) (hb : h[k].1 = b) : (endK h b E n v k).set n v = endK h b E n v (k + 1) := by
  have e : (h.take (k + 1)).any (fun q => decide (q.1 = b)) = true := by
    rw [List.take_add_one, List.getElem?_eq_getElem hk, List.any_append]
    simp [hb]
  unfold endK
  rw [e]
  split <;> simp
theorem endK_no {h : List HeldP} (b : Int) (E : List Int) (n : Nat) (v : Int) {k : Nat} (hk : k < h.length) (hb : h[k].1 ≠ b) : endK h b E n v (k + 1) = endK h b E n v k := by
  unfold endK
  have e : (h.take (k + 1)).any (fun q => decide (q.1 = b)) = (h.take k).any (fun q => decide (q.1 = b)) := by
    rw [List.take_add_one, List.getElem?_eq_getElem hk, List.any_append]
    simp [hb]
  rw [e]
theorem endK_all {h : List HeldP} {b : Int} (E : List Int) (n : Nat) (v : Int) (hh : hasL h b = true) {k : Nat} (hk : h.length ≤ k) : endK h b E n v k = E.set n v := by
  unfold endK
  rw [List.take_of_length_le hk]
  unfold hasL at hh
  rw [hh]
  rfl
theorem held_until {h : List HeldP} (hr : Ris h) {b : Int} {k : Nat} (hk : k < h.length) (hb : h[k].1 = b) : h[k].2.2 = (getL h b).2.2 := by
  rw [← hb, get_mem hr (List.getElem_mem hk)]
end Go.Proofs.Yteajlffchdbkjaa.Re
namespace Go.Proofs.Yteajlffchdbkjaa.Re
open Go.RowKit Go.Proofs.YteajlffchdbkjaaW.PrintWords
set_option linter.unusedVariables false
set_option linter.unusedSimpArgs false
theorem eqArr2 (d : Nat) (w : World) (a1 a2 b1 b2 : Int) : (Op.equalIn (d + 2) 48 (.agg #[.int .i64 a1, .int .i64 a2]) (.agg #[.int .i64 b1, .int .i64 b2])).run Try.prog w = .ok (a1 == b1 && a2 == b2) w := by
  have hu : Try.prog.underlying 48 = some (.array 2 3) := Try.underlying48
  have hs : (sizeOf 3).run Try.prog w = .ok 1 w := by go_simp
  rw [Op.equalIn]
  simp only [Sem.run_bind, run_underlying hu, Result.andThen_ok]
  rw [hs]
  simp only [Result.andThen_ok, Std.Legacy.Range.forIn_eq_forIn_range', Std.Legacy.Range.size, List.range', List.forIn_cons, List.forIn_nil]
  have p1 : ∀ x1 x2 : Int, (part 3 #[Value.int .i64 x1, Value.int .i64 x2] (0 * 1)).run Try.prog w = .ok (.int .i64 x1) w := fun x1 x2 => by go_simp
  have p2 : ∀ x1 x2 : Int, (part 3 #[Value.int .i64 x1, Value.int .i64 x2] ((0 + 1) * 1)).run Try.prog w = .ok (.int .i64 x2) w := fun x1 x2 => by go_simp
  have e1 : ∀ x1 x2 : Int, (Op.equalIn (d + 1) 3 (.int .i64 x1) (.int .i64 x2)).run Try.prog w = .ok (x1 == x2) w := fun x1 x2 => by go_simp
  simp only [Sem.run_bind, p1, p2, e1, Result.andThen_ok]
  cases h1 : (a1 == b1) <;> cases h2 : (a2 == b2) <;> simp [Sem.run_bind, p1, p2, e1, h2, Result.andThen_ok]
abbrev cirA (c : Int × Int × Int × Int × Int × Int) : Value := .agg #[.int .i64 c.1, .int .i64 c.2.1, .int .i64 c.2.2.1, .int .i64 c.2.2.2.1, .int .i64 c.2.2.2.2.1, .int .i64 c.2.2.2.2.2]
theorem eqCi (d : Nat) (w : World) (a1 a2 a3 a4 a5 a6 b1 b2 b3 b4 b5 b6 : Int) : (Op.equalIn (d + 3) 50 (cirA (a1, a2, a3, a4, a5, a6)) (cirA (b1, b2, b3, b4, b5, b6))).run Try.prog w = .ok (a1 == b1 && (a2 == b2 && (a3 == b3 && (a4 == b4 && (a5 == b5 && a6 == b6))))) w := by
  refine eqA_of Try.underlying50 (by kernel_rfl) ?_
  refine eqf_cons (by rfl) (by go_simp; rfl) (by go_simp; rfl) (by go_simp) ?_
  refine eqf_cons (by rfl) (by go_simp; rfl) (by go_simp; rfl) (by go_simp) ?_
  refine eqf_cons (by rfl) (by go_simp; rfl) (by go_simp; rfl) (by go_simp) ?_
  refine eqf_cons (by rfl) (by go_simp; rfl) (by go_simp; rfl) (by go_simp) ?_
  exact eqf_last (by rfl) (by go_simp) (by go_simp) (eqArr2 d w a5 a6 b5 b6)
theorem neq_cir (w : World) (a1 a2 a3 a4 a5 a6 : Int) : (binOp .neq 50 (cirA (a1, a2, a3, a4, a5, a6)) (cirA (a1, a2, a3, a4, a5, a6))).run Try.prog w = .ok (.bool false) w := by
  have h : (Op.equal 50 (cirA (a1, a2, a3, a4, a5, a6)) (cirA (a1, a2, a3, a4, a5, a6))).run Try.prog w = .ok true w := (eqCi 9997 w a1 a2 a3 a4 a5 a6 a1 a2 a3 a4 a5 a6).trans (by simp)
  unfold binOp
  simp only [Sem.run_bind, h, Result.andThen_ok, Sem.run_pure]
  rfl
theorem eqHe (d : Nat) (w : World) (a1 a2 a3 b1 b2 b3 : Int) : (Op.equalIn (d + 2) 58 (.agg #[.int .i64 a1, .int .u32 a2, .int .i64 a3]) (.agg #[.int .i64 b1, .int .u32 b2, .int .i64 b3])).run Try.prog w = .ok (a1 == b1 && (a2 == b2 && a3 == b3)) w := by
  refine eqA_of Try.underlying58 (by kernel_rfl) ?_
  refine eqf_cons (by rfl) (by go_simp; rfl) (by go_simp; rfl) (by go_simp) ?_
  refine eqf_cons (by rfl) (by go_simp; rfl) (by go_simp; rfl) (by go_simp) ?_
  exact eqf_last (by rfl) (by go_simp; rfl) (by go_simp; rfl) (by go_simp)
theorem neq_held (w : World) (a1 a2 a3 : Int) : (binOp .neq 58 (.agg #[.int .i64 a1, .int .u32 a2, .int .i64 a3]) (.agg #[.int .i64 a1, .int .u32 a2, .int .i64 a3])).run Try.prog w = .ok (.bool false) w := by
  have h : (Op.equal 58 (.agg #[.int .i64 a1, .int .u32 a2, .int .i64 a3]) (.agg #[.int .i64 a1, .int .u32 a2, .int .i64 a3])).run Try.prog w = .ok true w := (eqHe 9998 w a1 a2 a3 a1 a2 a3).trans (by simp)
  unfold binOp
  simp only [Sem.run_bind, h, Result.andThen_ok, Sem.run_pure]
  rfl
end Go.Proofs.Yteajlffchdbkjaa.Re
namespace Go.Proofs.Yteajlffchdbkjaa.Re
open Go.RowKit Go.Maps Go.Shelf Go.Proofs.Yteajlffchdbkjaa.Rv Go.Proofs.Yteajlffchdbkjaa.Ci Go.Proofs.Yteajlffchdbkjaa.Sp Go.Proofs.YteajlffchdbkjaaW.PrintWords Go.Proofs.YteajlffchdbkjaaW.PrintLast Go.Proofs.YteajlffchdbkjaaW.PrintMore
set_option linter.unusedVariables false
set_option linter.unusedSimpArgs false
attribute [local go_sem] Oper.semAt_some
abbrev Stp := Int × Int × Int × Int × Int × Int × List Int
def dDo : Kd Stp := Kd.pair (Kd.int .i64) (Kd.pair (Kd.int .i64) (Kd.pair (Kd.int .i64) (Kd.pair (Kd.int .i64) (Kd.pair (Kd.int .i64) (Kd.pair (Kd.int .u32) (Kd.slice 5 (Kd.int .u8)))))))
theorem at_D {w : World} {A : Option Addr} {n : Nat} {l : List Stp} (h : dDo.C w A n l) (i : Nat) (x : Stp) (hx : l[i]? = some x) (hn : n = l.length) : ∃ ad A2 c2, A = some ad ∧ w.cell? (ad.add (i * 7)) = some (.int .i64 x.1) ∧ w.cell? ⟨(ad.add (i * 7)).block, (ad.add (i * 7)).off + 1, none⟩ = some (.int .i64 x.2.1) ∧
    w.cell? ⟨(ad.add (i * 7)).block, (ad.add (i * 7)).off + 2, none⟩ = some (.int .i64 x.2.2.1) ∧ w.cell? ⟨(ad.add (i * 7)).block, (ad.add (i * 7)).off + 3, none⟩ = some (.int .i64 x.2.2.2.1) ∧ w.cell? ⟨(ad.add (i * 7)).block, (ad.add (i * 7)).off + 4, none⟩ = some (.int .i64 x.2.2.2.2.1) ∧
    w.cell? ⟨(ad.add (i * 7)).block, (ad.add (i * 7)).off + 5, none⟩ = some (.int .u32 x.2.2.2.2.2.1) ∧ w.cell? ⟨(ad.add (i * 7)).block, (ad.add (i * 7)).off + 6, none⟩ = some (.slice A2 x.2.2.2.2.2.2.length c2) := by
  have hi := (List.getElem?_eq_some_iff.1 hx).1
  obtain ⟨ad, c, e, _, hK, hc⟩ := Kd.C_get h (0, 0, 0, 0, 0, 0, []) i (by omega) (by omega)
  have hg : l.getD (i : Int).toNat (0, 0, 0, 0, 0, 0, []) = x := by rw [Int.toNat_natCast, List.getD_eq_getElem?_getD, hx]; rfl
  rw [hg] at hK
  obtain ⟨_, _, rfl, rfl, ⟨_, _, rfl, rfl, ⟨_, _, rfl, rfl, ⟨_, _, rfl, rfl, ⟨_, _, rfl, rfl, ⟨_, _, rfl, rfl, A2, c2, rfl, hl, hC⟩⟩⟩⟩⟩⟩ := hK
  exact ⟨ad, A2, c2, e, hc 0 _ rfl, by rw [← add_field _ _ 1 (by omega)]; exact hc 1 _ rfl, by rw [← add_field _ _ 2 (by omega)]; exact hc 2 _ rfl, by rw [← add_field _ _ 3 (by omega)]; exact hc 3 _ rfl, by rw [← add_field _ _ 4 (by omega)]; exact hc 4 _ rfl, by rw [← add_field _ _ 5 (by omega)]; exact hc 5 _ rfl, by rw [← add_field _ _ 6 (by omega)]; exact hc 6 _ rfl⟩
theorem getS {l : List Stp} {i : Nat} (h : i < l.length) : l[i]? = some l[i] := List.getElem?_eq_getElem h
def smallB (l : List Stp) : Bool := (l.take 100).all fun x => decide (x.2.2.2.2.2.2.length ≤ 1000)
theorem smallB_at {l : List Stp} (h : smallB l = true) {i : Nat} {x : Stp} (hi : i < 100) (hx : l[i]? = some x) : x.2.2.2.2.2.2.length ≤ 1000 := by
  have h1 : (l.take 100)[i]? = some x := by rw [List.getElem?_take, if_pos hi, hx]
  have := List.all_eq_true.1 h x (List.mem_of_getElem? h1)
  simpa using this
set_option maxRecDepth 100000 in
set_option maxHeartbeats 1000000 in
theorem small_calls (w : World) (A : Option Addr) (c : Nat) (l : List Stp) (hr : dDo.C w A l.length l) (hc : l.length ≤ c) (hlen : l.length ≤ 140737488355328) :
    Calls Try.prog 18 #[.slice A l.length c] w fun e w' => e = .returned (.bool (smallB l)) ∧ w = w' := by
  have HR := Lib.hid hr
  clear hr
  obtain ⟨R, hR⟩ : ∃ R, smallB l = R := ⟨_, rfl⟩
  rw [hR]
  have HE := Lib.hid hR
  clear hR
  go_enter Try.func18, Try.ntmps18
  go_wp2
  go_loop [3] (fun v3 => ∃ i : Nat, v3 = .int .i64 i ∧ i ≤ l.length ∧ i ≤ 100 ∧ Hid (∀ x ∈ l.take i, x.2.2.2.2.2.2.length ≤ 1000)) (fun v3 => l.length - (intOf v3).toNat)
  case atStart => exact ⟨0, rfl, Nat.zero_le _, by omega, Lib.hid (by simp)⟩
  case round =>
    obtain ⟨i, rfl, hi, hi2, HT⟩ := hrel
    by_cases hlt : i < l.length
    · have b0 : decide ((i : Int) < (l.length : Int)) = true := decide_eq_true (by omega)
      have b1 : (i : Int) < (l.length : Int) := by omega
      by_cases h60 : i < 100
      · have b2 : decide ((i : Int) < 100) = true := decide_eq_true (by omega)
        obtain ⟨x, hx⟩ : ∃ x, l[i] = x := ⟨_, rfl⟩
        obtain ⟨ad, A2, c2, rfl, _, _, _, _, _, _, k2⟩ := at_D HR.out i x (by rw [getS hlt, hx]) rfl
        have HX := Lib.hid hx
        clear hx
        by_cases hbig : x.2.2.2.2.2.2.length ≤ 1000
        · have b3 : decide (1000 < (x.2.2.2.2.2.2.length : Int)) = false := decide_eq_false (by omega)
          have HB := Lib.hid hbig
          clear hbig
          go_wp2
          go_round
          case rel => exact ⟨i + 1, by go_num, by omega, by omega, Lib.hid (fun y hy => by
            rw [List.take_succ_eq_append_getElem hlt] at hy
            rcases List.mem_append.1 hy with hy | hy
            · exact HT.out y hy
            · rw [List.mem_singleton.1 hy, HX.out]; exact HB.out)⟩
          case measure => simp [intOf]; omega
        · have b3 : decide (1000 < (x.2.2.2.2.2.2.length : Int)) = true := decide_eq_true (by omega)
          have HB := Lib.hid hbig
          clear hbig
          go_wp2
          go_ret
          refine ⟨?_, rfl⟩
          have : smallB l = false := by
            rw [← Bool.not_eq_true]
            intro hs
            exact HB.out (smallB_at hs h60 (by rw [getS hlt, HX.out]))
          rw [← HE.out, this]
          rfl
      · have b2 : decide ((i : Int) < 100) = false := decide_eq_false (by omega)
        go_wp2
        go_ret
        refine ⟨?_, rfl⟩
        have : smallB l = true := by
          unfold smallB
          rw [List.all_eq_true]
          intro x hx
          rw [show (100 : Nat) = i by omega] at hx
          simpa using HT.out x hx
        rw [← HE.out, this]
        rfl
    · have b0 : decide ((i : Int) < (l.length : Int)) = false := decide_eq_false (by omega)
      go_wp2
      go_ret
      refine ⟨?_, rfl⟩
      have : smallB l = true := by
        unfold smallB
        rw [List.all_eq_true]
        intro x hx
        have hx' : x ∈ l.take i := by rw [List.take_of_length_le (by omega)]; exact List.mem_of_mem_take hx
        simpa using HT.out x hx'
      rw [← HE.out, this]
      rfl
set_option maxRecDepth 100000 in
set_option maxHeartbeats 2000000 in
theorem helds_same (W : World) (A1 A2 : Option Addr) (c1 c2 n : Nat) (L : List HeldP) (hn : L.length = n) (hl : n ≤ 10000)
    (h1 : n = 0 ∨ ∃ gr, A1 = some ⟨gr, 0, none⟩ ∧ gr < W.heap.size ∧ ∀ X : World, X.heap[gr]? = W.heap[gr]? → ∀ i (hi : i < L.length), X.cell? ⟨gr, i * 3, none⟩ = some (.int .i64 L[i].1) ∧ X.cell? ⟨gr, i * 3 + 1, none⟩ = some (.int .u32 L[i].2.1) ∧ X.cell? ⟨gr, i * 3 + 2, none⟩ = some (.int .i64 L[i].2.2))
    (h2 : n = 0 ∨ ∃ gr, A2 = some ⟨gr, 0, none⟩ ∧ gr < W.heap.size ∧ ∀ X : World, X.heap[gr]? = W.heap[gr]? → ∀ i (hi : i < L.length), X.cell? ⟨gr, i * 3, none⟩ = some (.int .i64 L[i].1) ∧ X.cell? ⟨gr, i * 3 + 1, none⟩ = some (.int .u32 L[i].2.1) ∧ X.cell? ⟨gr, i * 3 + 2, none⟩ = some (.int .i64 L[i].2.2)) :
    Calls Try.prog 19 #[.slice A1 n c1, .slice A2 n c2] W fun e w' => e = .returned (.bool true) ∧ Below W.heap.size W w' := by
  have H1 := Lib.hid h1
  have H2 := Lib.hid h2
  have HN := Lib.hid hn
  clear h1 h2 hn
  go_enter Try.func19, Try.ntmps19
  go_wp2
  go_loopw [5] (fun v5 wr => ∃ i : Nat, v5 = .int .i64 i ∧ i ≤ n ∧ Hid (Below W.heap.size W wr)) (fun v5 _ => n - (intOf v5).toNat)
  case atStart => exact ⟨0, rfl, Nat.zero_le _, Lib.hid (Below.refl _ _)⟩
  case round =>
    obtain ⟨i, rfl, hi, HB⟩ := hrel
    by_cases hlt : i < n
    · have b1 : decide ((i : Int) < (n : Int)) = true := decide_eq_true (by omega)
      have hiL : i < L.length := by rw [HN.out]; exact hlt
      have hiI : (i : Int) < (n : Int) := by omega
      obtain ⟨⟨z0, z1, z2⟩, hz⟩ : ∃ q, L[i] = q := ⟨_, rfl⟩
      obtain ⟨g1, rfl, x0, x1, x2⟩ : ∃ gr, A1 = some ⟨gr, 0, none⟩ ∧ wr.cell? ⟨gr, i * 3, none⟩ = some (.int .i64 z0) ∧ wr.cell? ⟨gr, i * 3 + 1, none⟩ = some (.int .u32 z1) ∧ wr.cell? ⟨gr, i * 3 + 2, none⟩ = some (.int .i64 z2) := by
        rcases H1.out with h | ⟨gr, e, k, hx⟩
        · omega
        · have h := hx wr (HB.out.block gr k) i hiL
          rw [hz] at h
          exact ⟨gr, e, h⟩
      obtain ⟨g2, rfl, y0, y1, y2⟩ : ∃ gr, A2 = some ⟨gr, 0, none⟩ ∧ wr.cell? ⟨gr, i * 3, none⟩ = some (.int .i64 z0) ∧ wr.cell? ⟨gr, i * 3 + 1, none⟩ = some (.int .u32 z1) ∧ wr.cell? ⟨gr, i * 3 + 2, none⟩ = some (.int .i64 z2) := by
        rcases H2.out with h | ⟨gr, e, k, hx⟩
        · omega
        · have h := hx wr (HB.out.block gr k) i hiL
          rw [hz] at h
          exact ⟨gr, e, h⟩
      have qn := fun (w : World) => neq_held w z0 z1 z2
      clear hz hiL
      go_upto_region 6 with fail
      refine wp_region_held_drew (S := fun w' => w'.cell? ⟨g1, i * 3, none⟩ = some (.int .i64 z0) ∧ w'.cell? ⟨g1, i * 3 + 1, none⟩ = some (.int .u32 z1) ∧ w'.cell? ⟨g1, i * 3 + 2, none⟩ = some (.int .i64 z2) ∧ w'.cell? ⟨g2, i * 3, none⟩ = some (.int .i64 z0) ∧ w'.cell? ⟨g2, i * 3 + 1, none⟩ = some (.int .u32 z1) ∧ w'.cell? ⟨g2, i * 3 + 2, none⟩ = some (.int .i64 z2)) (by kernel_rfl) ?_ (fun hHeld => ?_)
      · exact ⟨x0, x1, x2, y0, y1, y2⟩
      refine wpAnyH_take (i := 0) (v := ?_) rfl (by kernel_rfl) (by kernel_rfl) (by kernel_rfl) (fun _ _ _ h => h) (Or.inl ⟨by rfl, ?_⟩) (by assumption) ?_
      rotate_left
      · (intro w hSw; (try dsimp only at hSw); go_simp; try with_reducible rfl)
      try simp only [Act.put, List.setIfInBounds_toArray, List.set_cons_zero, List.set_cons_succ, List.getElem_toArray, List.getElem_cons_succ, List.getElem_cons_zero]
      refine wpAnyH_take (i := 1) (v := ?_) rfl (by kernel_rfl) (by kernel_rfl) (by kernel_rfl) (fun _ _ _ h => h) (Or.inl ⟨by rfl, ?_⟩) (by assumption) ?_
      rotate_left
      · (intro w hSw; (try dsimp only at hSw); go_simp; try with_reducible rfl)
      try simp only [Act.put, List.setIfInBounds_toArray, List.set_cons_zero, List.set_cons_succ, List.getElem_toArray, List.getElem_cons_succ, List.getElem_cons_zero]
      refine wpAnyH_take (i := 2) (v := ?_) rfl (by kernel_rfl) (by kernel_rfl) (by kernel_rfl) (fun _ _ _ h => h) (Or.inl ⟨by rfl, ?_⟩) (by assumption) ?_
      rotate_left
      · (intro w hSw; (try dsimp only at hSw); go_simp; try with_reducible rfl)
      try simp only [Act.put, List.setIfInBounds_toArray, List.set_cons_zero, List.set_cons_succ, List.getElem_toArray, List.getElem_cons_succ, List.getElem_cons_zero]
      refine wpAnyH_take (i := 3) (v := ?_) rfl (by kernel_rfl) (by kernel_rfl) (by kernel_rfl) (fun _ _ _ h => h) (Or.inl ⟨by rfl, ?_⟩) (by assumption) ?_
      rotate_left
      · (intro w hSw; (try dsimp only at hSw); go_simp; try with_reducible rfl)
      try simp only [Act.put, List.setIfInBounds_toArray, List.set_cons_zero, List.set_cons_succ, List.getElem_toArray, List.getElem_cons_succ, List.getElem_cons_zero]
      refine wpAnyH_take (i := 4) (v := ?_) rfl (by kernel_rfl) (by kernel_rfl) (by kernel_rfl) (fun _ _ _ h => h) (Or.inl ⟨by rfl, ?_⟩) (by assumption) ?_
      rotate_left
      · (intro w hSw; (try dsimp only at hSw); go_simp; try with_reducible rfl)
      try simp only [Act.put, List.setIfInBounds_toArray, List.set_cons_zero, List.set_cons_succ, List.getElem_toArray, List.getElem_cons_succ, List.getElem_cons_zero]
      refine wpAnyH_take (i := 5) (v := ?_) rfl (by kernel_rfl) (by kernel_rfl) (by kernel_rfl) (fun _ _ _ h => h) (Or.inl ⟨by rfl, ?_⟩) (by assumption) ?_
      rotate_left
      · (intro w hSw; (try dsimp only at hSw); go_simp; try with_reducible rfl)
      try simp only [Act.put, List.setIfInBounds_toArray, List.set_cons_zero, List.set_cons_succ, List.getElem_toArray, List.getElem_cons_succ, List.getElem_cons_zero]
      refine wpAnyH_take (i := 6) (v := ?_) rfl (by kernel_rfl) (by kernel_rfl) (by kernel_rfl) (fun _ _ _ h => h) (Or.inl ⟨by rfl, ?_⟩) (by assumption) ?_
      rotate_left
      · (intro w hSw; (try dsimp only at hSw); go_simp; try with_reducible rfl)
      try simp only [Act.put, List.setIfInBounds_toArray, List.set_cons_zero, List.set_cons_succ, List.getElem_toArray, List.getElem_cons_succ, List.getElem_cons_zero]
      refine wpAnyH_take (i := 7) (v := ?_) rfl (by kernel_rfl) (by kernel_rfl) (by kernel_rfl) (fun _ _ _ h => h) (Or.inl ⟨by rfl, ?_⟩) (by assumption) ?_
      rotate_left
      · (intro w hSw; (try dsimp only at hSw); go_simp; try with_reducible rfl)
      try simp only [Act.put, List.setIfInBounds_toArray, List.set_cons_zero, List.set_cons_succ, List.getElem_toArray, List.getElem_cons_succ, List.getElem_cons_zero]
      refine wpAnyH_take (i := 8) (v := ?_) rfl (by kernel_rfl) (by kernel_rfl) (by kernel_rfl) (fun _ _ _ h => h) (Or.inl ⟨by rfl, ?_⟩) (by assumption) ?_
      rotate_left
      · (intro w hSw; (try dsimp only at hSw); go_simp; try with_reducible rfl)
      try simp only [Act.put, List.setIfInBounds_toArray, List.set_cons_zero, List.set_cons_succ, List.getElem_toArray, List.getElem_cons_succ, List.getElem_cons_zero]
      refine wpAnyH_done (by kernel_rfl) ?_ _
      go_wp2
      go_roundw
      case rel => exact ⟨i + 1, by go_num, by omega, Lib.hid (HB.out.trans ⟨rfl, rfl, rfl, Nat.le_refl _, fun _ _ => rfl⟩)⟩
      case measure => simp [intOf]; omega
    · have b1 : decide ((i : Int) < (n : Int)) = false := decide_eq_false (by omega)
      go_wp2
      go_ret
      exact ⟨rfl, HB.out⟩
set_option maxRecDepth 100000 in
set_option maxHeartbeats 2000000 in
theorem cirs_same (W : World) (A1 A2 : Option Addr) (c1 c2 n : Nat) (L : List CirP) (hn : L.length = n) (hl : n ≤ 10000)
    (h1 : n = 0 ∨ ∃ gr, A1 = some ⟨gr, 0, none⟩ ∧ gr < W.heap.size ∧ ∀ X : World, X.heap[gr]? = W.heap[gr]? → ∀ i (hi : i < L.length) (j : Nat) (hj : j < 6), X.cell? ⟨gr, i * 6 + j, none⟩ = (cirC L[i])[j]?)
    (h2 : n = 0 ∨ ∃ gr, A2 = some ⟨gr, 0, none⟩ ∧ gr < W.heap.size ∧ ∀ X : World, X.heap[gr]? = W.heap[gr]? → ∀ i (hi : i < L.length) (j : Nat) (hj : j < 6), X.cell? ⟨gr, i * 6 + j, none⟩ = (cirC L[i])[j]?) :
    Calls Try.prog 20 #[.slice A1 n c1, .slice A2 n c2] W fun e w' => e = .returned (.bool true) ∧ Below W.heap.size W w' := by
  have H1 := Lib.hid h1
  have H2 := Lib.hid h2
  have HN := Lib.hid hn
  clear h1 h2 hn
  go_enter Try.func20, Try.ntmps20
  go_wp2
  go_loopw [5] (fun v5 wr => ∃ i : Nat, v5 = .int .i64 i ∧ i ≤ n ∧ Hid (Below W.heap.size W wr)) (fun v5 _ => n - (intOf v5).toNat)
  case atStart => exact ⟨0, rfl, Nat.zero_le _, Lib.hid (Below.refl _ _)⟩
  case round =>
    obtain ⟨i, rfl, hi, HB⟩ := hrel
    by_cases hlt : i < n
    · have b1 : decide ((i : Int) < (n : Int)) = true := decide_eq_true (by omega)
      have hiL : i < L.length := by rw [HN.out]; exact hlt
      have hiI : (i : Int) < (n : Int) := by omega
      obtain ⟨⟨z0, z1, z2, z3, z4, z5⟩, hz⟩ : ∃ q, L[i] = q := ⟨_, rfl⟩
      obtain ⟨g1, rfl, hxx⟩ : ∃ gr, A1 = some ⟨gr, 0, none⟩ ∧ Hid (∀ j (hj : j < 6), wr.cell? ⟨gr, i * 6 + j, none⟩ = (cirC (z0, z1, z2, z3, z4, z5))[j]?) := by
        rcases H1.out with h | ⟨gr, e, k, hx⟩
        · omega
        · have h := hx wr (HB.out.block gr k) i hiL
          rw [hz] at h
          exact ⟨gr, e, Lib.hid h⟩
      obtain ⟨g2, rfl, hyy⟩ : ∃ gr, A2 = some ⟨gr, 0, none⟩ ∧ Hid (∀ j (hj : j < 6), wr.cell? ⟨gr, i * 6 + j, none⟩ = (cirC (z0, z1, z2, z3, z4, z5))[j]?) := by
        rcases H2.out with h | ⟨gr, e, k, hx⟩
        · omega
        · have h := hx wr (HB.out.block gr k) i hiL
          rw [hz] at h
          exact ⟨gr, e, Lib.hid h⟩
      have x0 : wr.cell? ⟨g1, i * 6, none⟩ = some (.int .i64 z0) := hxx.out 0 (by omega)
      have x1 : wr.cell? ⟨g1, i * 6 + 1, none⟩ = some (.int .i64 z1) := hxx.out 1 (by omega)
      have x2 : wr.cell? ⟨g1, i * 6 + 2, none⟩ = some (.int .i64 z2) := hxx.out 2 (by omega)
      have x3 : wr.cell? ⟨g1, i * 6 + 3, none⟩ = some (.int .i64 z3) := hxx.out 3 (by omega)
      have x4 : wr.cell? ⟨g1, i * 6 + 4, none⟩ = some (.int .i64 z4) := hxx.out 4 (by omega)
      have x5 : wr.cell? ⟨g1, i * 6 + 5, none⟩ = some (.int .i64 z5) := hxx.out 5 (by omega)
      have y0 : wr.cell? ⟨g2, i * 6, none⟩ = some (.int .i64 z0) := hyy.out 0 (by omega)
      have y1 : wr.cell? ⟨g2, i * 6 + 1, none⟩ = some (.int .i64 z1) := hyy.out 1 (by omega)
      have y2 : wr.cell? ⟨g2, i * 6 + 2, none⟩ = some (.int .i64 z2) := hyy.out 2 (by omega)
      have y3 : wr.cell? ⟨g2, i * 6 + 3, none⟩ = some (.int .i64 z3) := hyy.out 3 (by omega)
      have y4 : wr.cell? ⟨g2, i * 6 + 4, none⟩ = some (.int .i64 z4) := hyy.out 4 (by omega)
      have y5 : wr.cell? ⟨g2, i * 6 + 5, none⟩ = some (.int .i64 z5) := hyy.out 5 (by omega)
      have qn := fun (w : World) => neq_cir w z0 z1 z2 z3 z4 z5
      dsimp only [cirA] at qn
      clear hz hiL hxx hyy
      go_upto_region 6 with fail
      refine wp_region_held_drew (S := fun w' => w'.cell? ⟨g1, i * 6, none⟩ = some (.int .i64 z0) ∧ w'.cell? ⟨g1, i * 6 + 1, none⟩ = some (.int .i64 z1) ∧ w'.cell? ⟨g1, i * 6 + 2, none⟩ = some (.int .i64 z2) ∧ w'.cell? ⟨g1, i * 6 + 3, none⟩ = some (.int .i64 z3) ∧ w'.cell? ⟨g1, i * 6 + 4, none⟩ = some (.int .i64 z4) ∧ w'.cell? ⟨g1, i * 6 + 5, none⟩ = some (.int .i64 z5) ∧ w'.cell? ⟨g2, i * 6, none⟩ = some (.int .i64 z0) ∧ w'.cell? ⟨g2, i * 6 + 1, none⟩ = some (.int .i64 z1) ∧ w'.cell? ⟨g2, i * 6 + 2, none⟩ = some (.int .i64 z2) ∧ w'.cell? ⟨g2, i * 6 + 3, none⟩ = some (.int .i64 z3) ∧ w'.cell? ⟨g2, i * 6 + 4, none⟩ = some (.int .i64 z4) ∧ w'.cell? ⟨g2, i * 6 + 5, none⟩ = some (.int .i64 z5)) (by kernel_rfl) ?_ (fun hHeld => ?_)
      · exact ⟨x0, x1, x2, x3, x4, x5, y0, y1, y2, y3, y4, y5⟩
      refine wpAnyH_take (i := 0) (v := ?_) rfl (by kernel_rfl) (by kernel_rfl) (by kernel_rfl) (fun _ _ _ h => h) (Or.inl ⟨by rfl, ?_⟩) (by assumption) ?_
      rotate_left
      · (intro w hSw; (try dsimp only at hSw); go_simp; try with_reducible rfl)
      try simp only [Act.put, List.setIfInBounds_toArray, List.set_cons_zero, List.set_cons_succ, List.getElem_toArray, List.getElem_cons_succ, List.getElem_cons_zero]
      refine wpAnyH_take (i := 1) (v := ?_) rfl (by kernel_rfl) (by kernel_rfl) (by kernel_rfl) (fun _ _ _ h => h) (Or.inl ⟨by rfl, ?_⟩) (by assumption) ?_
      rotate_left
      · (intro w hSw; (try dsimp only at hSw); go_simp; try with_reducible rfl)
      try simp only [Act.put, List.setIfInBounds_toArray, List.set_cons_zero, List.set_cons_succ, List.getElem_toArray, List.getElem_cons_succ, List.getElem_cons_zero]
      refine wpAnyH_take (i := 2) (v := ?_) rfl (by kernel_rfl) (by kernel_rfl) (by kernel_rfl) (fun _ _ _ h => h) (Or.inl ⟨by rfl, ?_⟩) (by assumption) ?_
      rotate_left
      · (intro w hSw; (try dsimp only at hSw); go_simp; try with_reducible rfl)
      try simp only [Act.put, List.setIfInBounds_toArray, List.set_cons_zero, List.set_cons_succ, List.getElem_toArray, List.getElem_cons_succ, List.getElem_cons_zero]
      refine wpAnyH_take (i := 3) (v := ?_) rfl (by kernel_rfl) (by kernel_rfl) (by kernel_rfl) (fun _ _ _ h => h) (Or.inl ⟨by rfl, ?_⟩) (by assumption) ?_
      rotate_left
      · (intro w hSw; (try dsimp only at hSw); go_simp; try with_reducible rfl)
      try simp only [Act.put, List.setIfInBounds_toArray, List.set_cons_zero, List.set_cons_succ, List.getElem_toArray, List.getElem_cons_succ, List.getElem_cons_zero]
      refine wpAnyH_take (i := 4) (v := ?_) rfl (by kernel_rfl) (by kernel_rfl) (by kernel_rfl) (fun _ _ _ h => h) (Or.inl ⟨by rfl, ?_⟩) (by assumption) ?_
      rotate_left
      · (intro w hSw; (try dsimp only at hSw); go_simp; try with_reducible rfl)
      try simp only [Act.put, List.setIfInBounds_toArray, List.set_cons_zero, List.set_cons_succ, List.getElem_toArray, List.getElem_cons_succ, List.getElem_cons_zero]
      refine wpAnyH_take (i := 5) (v := ?_) rfl (by kernel_rfl) (by kernel_rfl) (by kernel_rfl) (fun _ _ _ h => h) (Or.inl ⟨by rfl, ?_⟩) (by assumption) ?_
      rotate_left
      · (intro w hSw; (try dsimp only at hSw); go_simp; try with_reducible rfl)
      try simp only [Act.put, List.setIfInBounds_toArray, List.set_cons_zero, List.set_cons_succ, List.getElem_toArray, List.getElem_cons_succ, List.getElem_cons_zero]
      refine wpAnyH_take (i := 6) (v := ?_) rfl (by kernel_rfl) (by kernel_rfl) (by kernel_rfl) (fun _ _ _ h => h) (Or.inl ⟨by rfl, ?_⟩) (by assumption) ?_
      rotate_left
      · (intro w hSw; (try dsimp only at hSw); go_simp; try with_reducible rfl)
      try simp only [Act.put, List.setIfInBounds_toArray, List.set_cons_zero, List.set_cons_succ, List.getElem_toArray, List.getElem_cons_succ, List.getElem_cons_zero]
      refine wpAnyH_take (i := 7) (v := ?_) rfl (by kernel_rfl) (by kernel_rfl) (by kernel_rfl) (fun _ _ _ h => h) (Or.inl ⟨by rfl, ?_⟩) (by assumption) ?_
      rotate_left
      · (intro w hSw; (try dsimp only at hSw); go_simp; try with_reducible rfl)
      try simp only [Act.put, List.setIfInBounds_toArray, List.set_cons_zero, List.set_cons_succ, List.getElem_toArray, List.getElem_cons_succ, List.getElem_cons_zero]
      refine wpAnyH_take (i := 8) (v := ?_) rfl (by kernel_rfl) (by kernel_rfl) (by kernel_rfl) (fun _ _ _ h => h) (Or.inl ⟨by rfl, ?_⟩) (by assumption) ?_
      rotate_left
      · (intro w hSw; (try dsimp only at hSw); go_simp; try with_reducible rfl)
      try simp only [Act.put, List.setIfInBounds_toArray, List.set_cons_zero, List.set_cons_succ, List.getElem_toArray, List.getElem_cons_succ, List.getElem_cons_zero]
      refine wpAnyH_done (by kernel_rfl) ?_ _
      go_wp2
      go_roundw
      case rel => exact ⟨i + 1, by go_num, by omega, Lib.hid (HB.out.trans ⟨rfl, rfl, rfl, Nat.le_refl _, fun _ _ => rfl⟩)⟩
      case measure => simp [intOf]; omega
    · have b1 : decide ((i : Int) < (n : Int)) = false := decide_eq_false (by omega)
      go_wp2
      go_ret
      exact ⟨rfl, HB.out⟩
end Go.Proofs.Yteajlffchdbkjaa.Re
namespace Go.Proofs.Yteajlffchdbkjaa.Re
open Go.RowKit Go.Maps Go.Shelf Go.Proofs.Yteajlffchdbkjaa.Rv Go.Proofs.Yteajlffchdbkjaa.Ci Go.Proofs.Yteajlffchdbkjaa.Sp Go.Proofs.YteajlffchdbkjaaW.PrintWords Go.Proofs.YteajlffchdbkjaaW.PrintLast Go.Proofs.YteajlffchdbkjaaW.PrintMore
set_option linter.unusedVariables false
set_option linter.unusedSimpArgs false
attribute [local go_sem] Oper.semAt_some
def encE (x : Int) : Value := .int .i64 x
def endO (E : List Int) : Obj := .cells (E.map encE).toArray 3 (0, 0)
theorem ptr_nil2 (w : World) : (binOp .eql 32 (.pointer none) (.pointer none)).run Try.prog w = .ok (.bool true) w := by kernel_rfl
theorem made102 (V : World) : (Instr.makeSlice 54 (.int .i64 102) (.int .i64 102)).run Try.prog V = .ok (.slice (some ⟨V.heap.size, 0, none⟩) 102 102) (V.alloc (endO (List.replicate 102 0))) := by
  obtain ⟨i, hi, hz, hs, hb⟩ := info_parts (show (Try.prog.info? 3).map (fun i => (i.zero, i.size, i.bytes)) = some (some (.int .i64 0), 1, 8) by kernel_rfl)
  have h := run_makeSlice (P := Try.prog) (w := V) 54 3 i (.int .i64 0) Try.underlying54 hi hz .i64 .i64 102 102 (by omega) (by omega) (by rw [hs]; decide) (by rw [hb]; decide) (by omega)
  rw [hs, show (Obj.cells (madeCells (Value.int .i64 0).cells (Int.toNat 102 * 1)) 3) = endO (List.replicate 102 0) by kernel_rfl] at h
  exact h
theorem end_cell {V : World} {B : Nat} {E : List Int} (h : V.heap[B]? = some (endO E)) (j : Nat) (hj : j < E.length) : V.cell? ⟨B, j, none⟩ = some (.int .i64 (E.getD j 0)) := by
  have h2 := cell_cellsN h j (by simpa using hj)
  rw [h2, List.getD_eq_getElem?_getD, List.getElem?_eq_getElem hj]
  simp [encE]
theorem end_set {V : World} {B : Nat} {E : List Int} (h : V.heap[B]? = some (endO E)) (j : Nat) (x : Int) : (V.setCell ⟨B, j, none⟩ (.int .i64 x)).heap[B]? = some (endO (E.set j x)) := set_cellsN j h (by rw [List.setIfInBounds_toArray, List.map_set]; rfl)
theorem own_typed {A : World} {base : Nat} {e : TypeId} {size : Nat} {v : Value} {n : Nat} {xs : List Value} (h : A.ownsRow base e size v n xs) {k : Nat} (hk : v.ownBlock = some k) : ∃ cur, A.heap[k]? = some (.cells cur e (0, 0)) := by
  rcases h.2 with ⟨h1, h2⟩ | ⟨gr, cap, cur, h1, h2, h3, h4⟩
  · rw [h1] at hk; cases hk
  · rw [h1] at hk
    injection hk with hk
    subst hk
    exact ⟨cur, h3⟩
theorem rowAt_move {W V : World} {A : Option Addr} {L : List CirP} {ok : Nat → Prop} {n : Nat} (h : RowAt W A L ok) (hn : L.length = n) (hlt : ∀ gr, A = some ⟨gr, 0, none⟩ → gr < V.heap.size ∧ V.heap[gr]? = W.heap[gr]?) :
    n = 0 ∨ ∃ gr, A = some ⟨gr, 0, none⟩ ∧ gr < V.heap.size ∧ ∀ X : World, X.heap[gr]? = V.heap[gr]? → ∀ i (hi : i < L.length) (j : Nat) (hj : j < 6), X.cell? ⟨gr, i * 6 + j, none⟩ = (cirC L[i])[j]? := by
  rcases h with h | ⟨gr, h1, _, h2, h3⟩
  · exact .inl (by omega)
  · exact .inr ⟨gr, h1, (hlt gr h1).1, fun X hX => h3 X (hX.trans (hlt gr h1).2)⟩
def HRowAt (W : World) (base : Nat) (A : Option Addr) (c : Nat) (L : List HeldP) : Prop := L.length = 0 ∨ ∃ gr, A = some ⟨gr, 0, none⟩ ∧ base ≤ gr ∧ gr < W.heap.size ∧ L.length ≤ c ∧ ∀ X : World, X.heap[gr]? = W.heap[gr]? → ∀ i (hi : i < L.length), X.cell? ⟨gr, i * 3, none⟩ = some (.int .i64 L[i].1) ∧ X.cell? ⟨gr, i * 3 + 1, none⟩ = some (.int .u32 L[i].2.1) ∧ X.cell? ⟨gr, i * 3 + 2, none⟩ = some (.int .i64 L[i].2.2)
theorem hrow_move {W V : World} {base c : Nat} {A : Option Addr} {L : List HeldP} {n : Nat} (h : HRowAt W base A c L) (hn : L.length = n) (hlt : ∀ gr, A = some ⟨gr, 0, none⟩ → gr < V.heap.size ∧ V.heap[gr]? = W.heap[gr]?) :
    n = 0 ∨ ∃ gr, A = some ⟨gr, 0, none⟩ ∧ gr < V.heap.size ∧ ∀ X : World, X.heap[gr]? = V.heap[gr]? → ∀ i (hi : i < L.length), X.cell? ⟨gr, i * 3, none⟩ = some (.int .i64 L[i].1) ∧ X.cell? ⟨gr, i * 3 + 1, none⟩ = some (.int .u32 L[i].2.1) ∧ X.cell? ⟨gr, i * 3 + 2, none⟩ = some (.int .i64 L[i].2.2) := by
  rcases h with h | ⟨gr, h1, _, h2, _, h3⟩
  · exact .inl (by omega)
  · exact .inr ⟨gr, h1, (hlt gr h1).1, fun X hX => h3 X (hX.trans (hlt gr h1).2)⟩
theorem RelK.offB {k : Nat} {w w1 : World} {r gN : Nat} {s : RelS} {av : Nat → Prop} (h : RelK k w r gN s av) (o : Nat → Prop) (ho : ∀ i, o i → av i) (hoff : Sp.Off o w w1) : RelK k w1 r gN s av := by
  obtain ⟨base, gR, bR, nR, gC, h1, h2⟩ := h
  exact ⟨base, gR, bR, nR, gC, Sep.sub (Sep.off o (av := av) (Sep.sub h1 (fun k hk => hk.elim id (fun e => ho k e.1))) hoff) (fun k hk => .inl hk), h2⟩
theorem res_now {s : RelS} {t p host : Int} (h : s.now ≤ t) : (ResT s t p host).2.2.now ≤ t := by
  unfold ResT
  split
  · exact h
  · unfold ResF
    split <;> exact Int.le_refl t
theorem con_now {s : RelS} {t a b : Int} (h : s.now ≤ t) : (ConT s t a b).2.2.now ≤ t := by
  unfold ConT
  split
  · exact h
  · unfold ConF
    split <;> exact Int.le_refl t
def doC (x : Int × Int × Int × Int × Int × Int) (v : Value) : Array Value := #[.int .i64 x.1, .int .i64 x.2.1, .int .i64 x.2.2.1, .int .i64 x.2.2.2.1, .int .i64 x.2.2.2.2.1, .int .u32 x.2.2.2.2.2, v]
theorem do_cells {V : World} {g : Nat} {kd wt pa pb no ho : Int} {v : Value} (h : V.heap[g]? = some (.cells #[.int .i64 kd, .int .i64 wt, .int .i64 pa, .int .i64 pb, .int .i64 no, .int .u32 ho, v] 56 (0, 0))) :
    V.cell? ⟨g, 0, none⟩ = some (.int .i64 kd) ∧ V.cell? ⟨g, 1, none⟩ = some (.int .i64 wt) ∧ V.cell? ⟨g, 2, none⟩ = some (.int .i64 pa) ∧ V.cell? ⟨g, 3, none⟩ = some (.int .i64 pb) ∧ V.cell? ⟨g, 4, none⟩ = some (.int .i64 no) ∧ V.cell? ⟨g, 5, none⟩ = some (.int .u32 ho) ∧ V.cell? ⟨g, 6, none⟩ = some v :=
  ⟨cell_cellsN h 0 (by simp), cell_cellsN h 1 (by simp), cell_cellsN h 2 (by simp), cell_cellsN h 3 (by simp), cell_cellsN h 4 (by simp), cell_cellsN h 5 (by simp), cell_cellsN h 6 (by simp)⟩
set_option maxRecDepth 100000 in
set_option maxHeartbeats 16000000 in
theorem caps_calls (w : World) (own a b c d e f : Int) (As : Option Addr) (ns cs : Nat) (ls : List Stp) (hr : dDo.C w As ns ls) (hn : ns = ls.length) (hc : ns ≤ cs) (hlen : ns ≤ 140737488355328) :
    Calls Try.prog 5 #[.int .i64 own, .agg #[.int .i64 a, .int .i64 b, .int .i64 c, .int .i64 d, .int .i64 e, .int .i64 f], .slice As ns cs] w fun en w' => en = .returned (.bool true) ∧ Below w.heap.size w w' := by
  obtain ⟨W, hW⟩ : ∃ W, w.alloc (.cells #[.int .i64 a, .int .i64 b, .int .i64 c, .int .i64 d, .int .i64 e, .int .i64 f] 23) = W := ⟨_, rfl⟩
  have hbW : Below w.heap.size w W := by rw [← hW]; exact (Below.refl _ w).alloc (Nat.le_refl _) _
  have hbl : W.heap[w.heap.size]? = some (.cells #[.int .i64 a, .int .i64 b, .int .i64 c, .int .i64 d, .int .i64 e, .int .i64 f] 23 (0, 0)) := by rw [← hW]; exact new_cellsN w _ _
  have hlt : w.heap.size < W.heap.size := (Array.getElem?_eq_some_iff.1 hbl).1
  have LC := Lib.hid (fun (V : World) (hV : Below W.heap.size W V) => limC_cells ((hV.block _ hlt).trans hbl))
  have HBW := Lib.hid hbW
  have HLT := Lib.hid hlt
  have hrV := fun (V : World) (hV : Below W.heap.size W V) => Kd.C_below hr (hbW.trans (hV.mono (Nat.le_of_lt hlt)))
  have CD := Lib.hid (fun (V : World) (hV : Below W.heap.size W V) (i : Nat) (x : Stp) (hx : ls[i]? = some x) => at_D (hrV V hV) i x hx hn)
  have HNS := Lib.hid hn
  have q25 := ptr_nil
  have q26 := ptr_nil2
  have KS := Lib.hid (fun (V : World) (hV : Below W.heap.size W V) => (show Calls Try.prog 18 #[.slice As ns cs] V fun e w' => e = .returned (.bool (smallB ls)) ∧ V = w' from by
    have h := hrV V hV
    subst hn
    exact small_calls V As cs ls h hc hlen))
  clear hr hbl hbW hlt hrV hn hc
  go_enter Try.func5, Try.ntmps5
  go_upto_region 3 with (go_at_call 17; refine (awake_calls _).mono ?_; rintro en w1 ⟨rfl, hb1⟩; have HB1 := Lib.hid hb1; clear hb1)
  clear hW
  have KS1 := KS.out w1 HB1.out
  cases hsm : smallB ls with
  | false =>
    rw [hsm] at KS1
    have KS1 := Lib.hid KS1
    go_wp2_with (go_at_call 18; (with_reducible refine KS1.out.mono ?_); rintro en w2 ⟨rfl, rfl⟩)
    go_ret
    exact ⟨rfl, HBW.out.trans (HB1.out.mono (Nat.le_of_lt HLT.out))⟩
  | true =>
    rw [hsm] at KS1
    have KS1 := Lib.hid KS1
    have HSM := Lib.hid hsm
    clear hsm
    go_upto_region 5 with (go_at_call 18; (with_reducible refine KS1.out.mono ?_); rintro en w2 ⟨rfl, rfl⟩)
    obtain ⟨c0, c1, c2, c3, c4, c5⟩ := LC.out w1 HB1.out
    by_cases hm : mayL (a, b, c, d, e, f) = true ∧ isPeer own
    · have HM := Lib.hid hm
      have HML := Lib.hid ((mayL_iff (a, b, c, d, e, f)).1 hm.1)
      clear hm
      refine wp_region_held_drew (S := fun w' => w'.cell? ⟨w.heap.size, 0, none⟩ = some (.int .i64 a) ∧ w'.cell? ⟨w.heap.size, 1, none⟩ = some (.int .i64 b) ∧ w'.cell? ⟨w.heap.size, 2, none⟩ = some (.int .i64 c) ∧ w'.cell? ⟨w.heap.size, 3, none⟩ = some (.int .i64 d) ∧ w'.cell? ⟨w.heap.size, 4, none⟩ = some (.int .i64 e) ∧ w'.cell? ⟨w.heap.size, 5, none⟩ = some (.int .i64 f)) (by kernel_rfl) ?_ (fun hHeld => ?_)
      · exact ⟨c0, c1, c2, c3, c4, c5⟩
      refine wpAnyH_take (i := 0) (v := ?_) rfl (by kernel_rfl) (by kernel_rfl) (by kernel_rfl) (fun _ _ _ h => h) (Or.inl ⟨by rfl, ?_⟩) (by assumption) ?_
      rotate_left
      · (intro w hSw; (try dsimp only at hSw); go_simp; try with_reducible rfl)
      try simp only [Act.put, List.setIfInBounds_toArray, List.set_cons_zero, List.set_cons_succ, List.getElem_toArray, List.getElem_cons_succ, List.getElem_cons_zero]
      refine wpAnyH_take (i := 1) (v := ?_) rfl (by kernel_rfl) (by kernel_rfl) (by kernel_rfl) (fun _ _ _ h => h) (Or.inl ⟨by rfl, ?_⟩) (by assumption) ?_
      rotate_left
      · (intro w hSw; (try dsimp only at hSw); go_simp; try with_reducible rfl)
      try simp only [Act.put, List.setIfInBounds_toArray, List.set_cons_zero, List.set_cons_succ, List.getElem_toArray, List.getElem_cons_succ, List.getElem_cons_zero]
      refine wpAnyH_ready (rs := [2]) (by kernel_rfl) (by simp) ?_
      refine AllReadyH.cons rfl (fun K hK => ?_) AllReadyH.nil
      go_simp
      go_at_call 10; refine (Nt.one_new _).mono ?_; rintro en w3 ⟨gN, rfl, hN, hb⟩; have HN := Lib.hid hN; have HB3 := Lib.hid (show Below W.heap.size W w3 from (HB1.out.trans (drew_below w1 |>.mono HB1.out.size)).trans (hb.mono HB1.out.size)); have hl3 := LC.out w3 HB3.out; clear hN hb
      refine hK.out _ _ ?_ (fun hHeld => ?_)
      · exact hl3
      clear hK K
      try simp only [Act.put, List.setIfInBounds_toArray, List.set_cons_zero, List.set_cons_succ, List.getElem_toArray, List.getElem_cons_succ, List.getElem_cons_zero]
      refine wpAnyH_ready (rs := [3]) (by kernel_rfl) (by simp) ?_
      refine AllReadyH.cons rfl (fun K hK => ?_) AllReadyH.nil
      go_simp
      go_at_call 11; refine (new_k own a b c d e f gN HN.out HM.out.1 HM.out.2).mono ?_; rintro en w4 ⟨r, rfl, hr, hb⟩; have HK4 := Lib.hid (hr.sub (fun k hk => Nat.lt_of_lt_of_le hk HB1.out.size)); have HB4 := Lib.hid (show Below W.heap.size W w4 from HB3.out.trans (hb.mono HB3.out.size)); have hl4 := LC.out w4 HB4.out; clear hr hb
      refine hK.out _ _ ?_ (fun hHeld => ?_)
      · exact hl4
      clear hK K
      try simp only [Act.put, List.setIfInBounds_toArray, List.set_cons_zero, List.set_cons_succ, List.getElem_toArray, List.getElem_cons_succ, List.getElem_cons_zero]
      refine wpAnyH_take (i := 4) (v := ?_) rfl (by kernel_rfl) (by kernel_rfl) (by kernel_rfl) (fun _ _ _ h => h) (Or.inl ⟨by rfl, ?_⟩) (by assumption) ?_
      rotate_left
      · (intro w hSw; (try dsimp only at hSw); go_simp; try with_reducible rfl)
      try simp only [Act.put, List.setIfInBounds_toArray, List.set_cons_zero, List.set_cons_succ, List.getElem_toArray, List.getElem_cons_succ, List.getElem_cons_zero]
      refine wpAnyH_take (i := 5) (v := ?_) rfl (by kernel_rfl) (by kernel_rfl) (by kernel_rfl) (fun _ _ _ h => h) (Or.inl ⟨by rfl, ?_⟩) (by assumption) ?_
      rotate_left
      · (intro w hSw; (try dsimp only at hSw); go_simp; try with_reducible rfl)
      try simp only [Act.put, List.setIfInBounds_toArray, List.set_cons_zero, List.set_cons_succ, List.getElem_toArray, List.getElem_cons_succ, List.getElem_cons_zero]
      refine wpAnyH_take (i := 6) (v := ?_) rfl (by kernel_rfl) (by kernel_rfl) (by kernel_rfl) (fun _ _ _ h => h) (Or.inl ⟨by rfl, ?_⟩) (by assumption) ?_
      rotate_left
      · (intro w hSw; (try dsimp only at hSw); go_simp; try with_reducible rfl)
      try simp only [Act.put, List.setIfInBounds_toArray, List.set_cons_zero, List.set_cons_succ, List.getElem_toArray, List.getElem_cons_succ, List.getElem_cons_zero]
      refine wpAnyH_take (i := 7) (v := ?_) rfl (by kernel_rfl) (by kernel_rfl) (by kernel_rfl) (fun _ _ _ h => h) (Or.inl ⟨by rfl, ?_⟩) (by assumption) ?_
      rotate_left
      · (intro w hSw; (try dsimp only at hSw); go_simp; try with_reducible rfl)
      try simp only [Act.put, List.setIfInBounds_toArray, List.set_cons_zero, List.set_cons_succ, List.getElem_toArray, List.getElem_cons_succ, List.getElem_cons_zero]
      refine wpAnyH_take (i := 8) (v := ?_) rfl (by kernel_rfl) (by kernel_rfl) (by kernel_rfl) (fun _ _ _ h => h) (Or.inl ⟨by rfl, ?_⟩) (by assumption) ?_
      rotate_left
      · (intro w hSw; (try dsimp only at hSw); go_simp; try with_reducible rfl)
      try simp only [Act.put, List.setIfInBounds_toArray, List.set_cons_zero, List.set_cons_succ, List.getElem_toArray, List.getElem_cons_succ, List.getElem_cons_zero]
      refine wpAnyH_done (by kernel_rfl) ?_ _
      clear c0 c1 c2 c3 c4 c5 hl3 hl4
      obtain ⟨B, hB⟩ : ∃ B, w4.heap.size = B := ⟨_, rfl⟩
      have qmk := made102 w4
      rw [hB] at qmk
      obtain ⟨V, hV⟩ : ∃ V, w4.alloc (endO (List.replicate 102 0)) = V := ⟨_, rfl⟩
      rw [hV] at qmk
      have hbV : Below w4.heap.size w4 V := by rw [← hV]; exact (Below.refl _ _).alloc (Nat.le_refl _) _
      have hEV : V.heap[B]? = some (endO (List.replicate 102 0)) := by rw [← hV, ← hB]; exact new_cellsN w4 _ _
      have HKV := Lib.hid ((HK4.out.step hbV).sub (av' := fun k => k < W.heap.size ∨ k = B) (fun k hk => hk.elim .inl (fun e => .inr ⟨by omega, by rw [e]; exact (Array.getElem?_eq_some_iff.1 hEV).1⟩)))
      have HBV := Lib.hid (show Below W.heap.size W V from HB4.out.trans (hbV.mono HB4.out.size))
      have HEV := Lib.hid hEV
      have HWB := Lib.hid (show W.heap.size ≤ B by rw [← hB]; exact HB4.out.size)
      clear hV hbV hEV hB
      go_upto_region 11 with fail
      clear qmk
      go_loopw [9, 11] (fun x9 x11 wr => ∃ (i : Nat) (now : Int) (s : RelS) (E : List Int), x9 = .int .i64 now ∧ x11 = .int .i64 i ∧ i ≤ 100 ∧ 0 ≤ now ∧ now ≤ 1000 * i ∧ Hid (CapInv own (a, b, c, d, e, f) i E s) ∧ Hid (E.length = 102) ∧ Hid (s.now ≤ now) ∧ Hid (RelK i wr r gN s (fun k => k < W.heap.size ∨ k = B)) ∧ Hid (wr.heap[B]? = some (endO E)) ∧ Hid (Below W.heap.size W wr)) (fun _ x11 _ => 100 - (intOf x11).toNat)
      case atStart => exact ⟨0, 0, _, _, rfl, rfl, by omega, Int.le_refl _, by omega, Lib.hid (cap_new own HM.out.1 _), Lib.hid (by simp), Lib.hid (Int.le_refl _), HKV, HEV, HBV⟩
      case round =>
        clear HKV HBV HEV
        obtain ⟨i, now, s, E, rfl, rfl, hi, hn0, hn1, HI, HEL, HSN, HKr, HEr, HBr⟩ := hrel
        by_cases hlt : i < ns
        · have b1 : decide ((i : Int) < (ns : Int)) = true := decide_eq_true (by omega)
          by_cases h100 : i < 100
          · have b2 : decide ((i : Int) < 100) = true := decide_eq_true (by omega)
            have hiL : i < ls.length := by rw [← HNS.out]; exact hlt
            have hltI : (i : Int) < (ns : Int) := by omega
            obtain ⟨x, hx⟩ : ∃ x, ls[i] = x := ⟨_, rfl⟩
            have hxi : ls[i]? = some x := by rw [getS hiL, hx]
            have hx1000 := smallB_at HSM.out h100 hxi
            obtain ⟨ad, Ab, cb, rfl, k0, k1, k2, k3, k4, k5, k6⟩ := CD.out wr HBr.out i x hxi
            obtain ⟨kd, wt, pa, pb, no, ho, bs⟩ := x
            dsimp only at k0 k1 k2 k3 k4 k5 k6 hx1000
            obtain ⟨nb, hnb⟩ : ∃ n, bs.length = n := ⟨_, rfl⟩
            rw [hnb] at k6 hx1000
            obtain ⟨X, hX⟩ : ∃ X, wr.alloc (.cells #[.int .i64 kd, .int .i64 wt, .int .i64 pa, .int .i64 pb, .int .i64 no, .int .u32 ho, .slice Ab nb cb] 56) = X := ⟨_, rfl⟩
            obtain ⟨D, hD⟩ : ∃ D, wr.heap.size = D := ⟨_, rfl⟩
            have hbX : Below wr.heap.size wr X := by rw [← hX]; exact (Below.refl _ _).alloc (Nat.le_refl _) _
            have hdX : X.heap[D]? = some (.cells #[.int .i64 kd, .int .i64 wt, .int .i64 pa, .int .i64 pb, .int .i64 no, .int .u32 ho, .slice Ab nb cb] 56 (0, 0)) := by rw [← hX, ← hD]; exact new_cellsN _ _ _
            have hBl : B < wr.heap.size := (Array.getElem?_eq_some_iff.1 HEr.out).1
            have HKX := Lib.hid ((HKr.out.step hbX).sub (av' := fun k => (k < W.heap.size ∨ k = B) ∨ k = D) (fun k hk => hk.imp id (fun e => ⟨by omega, by rw [e]; exact (Array.getElem?_eq_some_iff.1 hdX).1⟩)))
            have HEX := Lib.hid ((hbX.block B hBl).trans HEr.out)
            have HDX := Lib.hid hdX
            have HBX := Lib.hid (show Below W.heap.size W X from HBr.out.trans (hbX.mono HBr.out.size))
            have HXi := Lib.hid (show i < 100 ∧ 0 ≤ now ∧ now ≤ 1000 * i ∧ nb ≤ 1000 from ⟨h100, hn0, hn1, hx1000⟩)
            clear hx hxi hbX hdX hnb hiL
            go_upto_region 14 with fail
            (try rw [hD])
            (try rw [hX])
            obtain ⟨d0, d1, d2, d3, d4, d5, d6⟩ := do_cells HDX.out
            clear hX hD k0 k1 k2 k3 k4 k5 k6 b1 b2 hltI
            obtain ⟨Bw, hBw⟩ : ∃ Bw, (decide (wt > 0) && decide (wt < 1000)) = Bw := ⟨_, rfl⟩
            have HBw := Lib.hid hBw
            clear hBw
            go_cut [61] (fun s61 wx => s61 = .bool Bw ∧ wx = X)
            case first =>
              by_cases hw1 : wt > 0
              · have g1 : decide (wt > 0) = true := decide_eq_true hw1
                by_cases hw2 : wt < 1000
                · have g2 : decide (wt < 1000) = true := decide_eq_true hw2
                  clear hw1 hw2
                  go_wp2_with fail
                  go_meet
                  case rel => exact ⟨by rw [← HBw.out, g1, g2]; rfl, rfl⟩
                · have g2 : decide (wt < 1000) = false := decide_eq_false hw2
                  clear hw1 hw2
                  go_wp2_with fail
                  go_meet
                  case rel => exact ⟨by rw [← HBw.out, g1, g2]; rfl, rfl⟩
              · have g1 : decide (wt > 0) = false := decide_eq_false hw1
                clear hw1
                go_wp2_with fail
                go_meet
                case rel => exact ⟨by rw [← HBw.out, g1]; rfl, rfl⟩
            case rest =>
              obtain ⟨rfl, hwc⟩ := hcut
              have hwc := hwc.symm
              subst hwc
              go_upto_if 61 with (fail)
              go_cut [9] (fun v9 wx => ∃ now2 : Int, v9 = .int .i64 now2 ∧ now ≤ now2 ∧ now2 ≤ now + 1000 ∧ wx = X)
              case first =>
                cases Bw with
                | true =>
                  have hw := HBw.out
                  simp only [Bool.and_eq_true, decide_eq_true_eq] at hw
                  have g3 : wrap64 (now + wt) = now + wt := IntWalk.wrap64_in _ (by omega)
                  have HW := Lib.hid hw
                  clear hw
                  go_wp2_with fail
                  go_meet
                  case rel => exact ⟨now + wt, rfl, by have := HW.out; omega, by have := HW.out; omega, rfl⟩
                | false =>
                  go_wp2_with fail
                  go_meet
                  case rel => exact ⟨now, rfl, by omega, by omega, rfl⟩
              case rest =>
                obtain ⟨now2, rfl, hq1, hq2, hwc⟩ := hcut
                have hwc := hwc.symm
                subst hwc
                have h2b : now2 ≤ 101000 := by omega
                have k8 := st_k HKX.out (show i ≤ 9000 by omega) now2 (by have := HSN.out; omega) (by omega)
                unfold StK at k8
                have HI1 := Lib.hid (cap_st HI.out now2)
                have hself := st_self s now2
                obtain ⟨s1, hs1⟩ : ∃ t, StF s now2 = t := ⟨_, rfl⟩
                have hsn : s1.now = now2 := by rw [← hs1]; rfl
                have e1 : overL s.R now2 = s1.R := by rw [← hs1]; rfl
                have e2 : liveC s.C now2 = s1.C := by rw [← hs1]; rfl
                rw [e1, e2, hs1] at k8
                rw [hs1] at hself
                have HI1 := Lib.hid (show CapInv own (a, b, c, d, e, f) i E s1 by rw [← hs1]; exact HI1.out)
                have HSELF := Lib.hid hself
                have HS1 := Lib.hid hsn
                have K8 := Lib.hid k8
                clear k8 hself hsn e1 e2 hs1
                go_upto_region 17 with (go_at_call 16; (with_reducible refine K8.out.mono ?_); rintro en w5 ⟨v1, v2, sz, rfl, ho1, ho2, hz, hk, hkp⟩; have HO1 := Lib.hid ho1; have HO2 := Lib.hid ho2; have HK5 := Lib.hid hk; have HP5 := Lib.hid hkp; have HB5 := Lib.hid (show Below W.heap.size W w5 from HBX.out.trans (hkp.toBelow (fun i hi => .inl (.inl hi)) HBX.out.size)); clear ho1 ho2 hz hk hkp)
                have hE5 := (HP5.out.2.2.2.2 B (.inl (.inr rfl))).trans HEX.out
                have hD5 := (HP5.out.2.2.2.2 D (.inr rfl)).trans HDX.out
                have HE5 := Lib.hid hE5
                have HD5 := Lib.hid hD5
                clear d0 d1 d2 d3 d4 d5 d6 hE5 hD5 HSN HI
                obtain ⟨d0, d1, d2, d3, d4, d5, d6⟩ := do_cells HD5.out
                obtain ⟨A1, c1, hv1, hr1⟩ := rowH_cells HO1.out
                obtain ⟨A2, c2, hv2, hr2⟩ := row_at HO2.out
                obtain ⟨n1, hn1⟩ : ∃ n, s1.R.length = n := ⟨_, rfl⟩
                obtain ⟨n2, hn2⟩ : ∃ n, s1.C.length = n := ⟨_, rfl⟩
                rw [hn1] at hv1
                rw [hn2] at hv2
                subst hv1 hv2
                have HN1 := Lib.hid hn1
                have HN2 := Lib.hid hn2
                have HR1 := Lib.hid hr1
                have HR2 := Lib.hid hr2
                have hinv := HK5.out.inv
                have hn1b : n1 ≤ 100 := by have := hinv.rlen; omega
                have hn2b : n2 ≤ 100 := by have := hinv.clen; omega
                have HINV := Lib.hid hinv
                have HT2 := Lib.hid (show 0 ≤ now2 ∧ now2 ≤ 101000 from ⟨by omega, h2b⟩)
                have HNB := Lib.hid hq2
                obtain ⟨av2, hav⟩ : ∃ av2 : Nat → Prop, av2 = fun k => ((k < W.heap.size ∨ k = B) ∨ k = D) ∨ ((Value.slice A1 n1 c1).ownBlock = some k ∨ (Value.slice A2 n2 c2).ownBlock = some k) := ⟨_, rfl⟩
                have hk5 := HK5.out
                rw [← hav] at hk5
                have HK5 := Lib.hid hk5
                have HAV := Lib.hid hav
                clear hk5 hav hr1 hr2 hn1 hn2 hinv hq1 hq2 hn0 h2b hlt h100
                go_upto_block 2 with fail
                go_cut [15] (fun v15 wx => ∃ (s2 : RelS) (E2 : List Int) (fc : Int), v15 = .int .i64 fc ∧ Hid (CapInv own (a, b, c, d, e, f) (i + 1) E2 s2) ∧ Hid (E2.length = 102) ∧ Hid (s2.now ≤ now2) ∧ Hid (fc ≠ 0 → overL s2.R now2 = s1.R ∧ liveC s2.C now2 = s1.C) ∧ Hid (RelK (i + 1) wx r gN s2 av2) ∧ Hid (wx.heap[B]? = some (endO E2)) ∧ Hid (∀ k, ((Value.slice A1 n1 c1).ownBlock = some k ∨ (Value.slice A2 n2 c2).ownBlock = some k) → wx.heap[k]? = w5.heap[k]?) ∧ Hid (Below W.heap.size W wx))
                case first =>
                  as_aux_lemma =>
                    have hbb : ∀ W1 : World, KpA av2 w5 W1 → Below W.heap.size W W1 := fun W1 hkp => HB5.out.trans (hkp.toBelow (fun i hi => by rw [HAV.out]; exact .inl (.inl (.inl hi))) HB5.out.size)
                    have HBB := Lib.hid hbb
                    have HAB := Lib.hid (show av2 B ∧ ∀ k, ((Value.slice A1 n1 c1).ownBlock = some k ∨ (Value.slice A2 n2 c2).ownBlock = some k) → av2 k from ⟨by rw [HAV.out]; exact .inl (.inl (.inr rfl)), fun k hk => by rw [HAV.out]; exact .inr hk⟩)
                    clear hbb
                    have hi100 := HXi.out.1
                    by_cases z0 : kd = 0
                    · subst z0
                      have KR := Lib.hid (res_k HK5.out (by omega) now2 pa ho)
                      have hcr := Lib.hid (cap_res HI1.out HSELF.out.1 HSELF.out.2.1 pa ho)
                      go_wp2_with (go_at_call 12; (with_reducible refine KR.out.mono ?_); rintro en w6 ⟨v, sz, rfl, hR, hsz, hk, hkp⟩; have HK6 := Lib.hid (hk.sub (fun k (e : av2 k) => .inl e)); have HP6 := Lib.hid hkp; clear hR hsz hk hkp)
                      go_meet
                      case rel => exact ⟨_, E, _, rfl, Lib.hid (hcr.out.1.mono (Nat.le_succ _)), HEL, Lib.hid (res_now (Int.le_of_eq HS1.out)), Lib.hid hcr.out.2, HK6, Lib.hid ((HP6.out.2.2.2.2 B HAB.out.1).trans HE5.out), Lib.hid (fun k hk => HP6.out.2.2.2.2 k (HAB.out.2 k hk)), Lib.hid (HBB.out _ HP6.out)⟩
                    · have p0 : (kd == 0) = false := by simpa using z0
                      clear z0
                      by_cases z1 : kd = 1
                      · subst z1
                        have KC := con_k HK5.out (by omega) now2 pa pb
                        unfold ConK at KC
                        have hcc := cap_con HI1.out (by omega) HEL.out HINV.out.last.1 HSELF.out.1 HSELF.out.2.1 HSELF.out.2.2 pa pb
                        have hcn := con_now (a := pa) (b := pb) (Int.le_of_eq HS1.out)
                        obtain ⟨⟨nn, g, s2⟩, hq⟩ : ∃ q, ConT s1 now2 pa pb = q := ⟨_, rfl⟩
                        rw [hq] at KC hcc hcn
                        have HCN := Lib.hid hcn
                        have KC := Lib.hid KC
                        clear hq hcn
                        rcases hcc with ⟨hg, hc1, hc2, hc3⟩ | ⟨hg0, hno0, hhas, hu, hmem, hc⟩
                        · have b5 : (g == 0) = false := by simpa using hg
                          have HC1 := Lib.hid (show CapInv own (a, b, c, d, e, f) i E s2 from hc1)
                          have HC2 := Lib.hid (show overL s2.R now2 = s1.R ∧ liveC s2.C now2 = s1.C from ⟨hc2, hc3⟩)
                          clear hg hc1 hc2 hc3
                          go_wp2_with (go_at_call 14; (with_reducible refine KC.out.mono ?_); rintro en w6 ⟨rfl, hk, hkp⟩; have HK6 := Lib.hid hk; have HP6 := Lib.hid hkp; clear hk hkp)
                          go_meet
                          case rel => exact ⟨_, E, _, rfl, Lib.hid (HC1.out.mono (Nat.le_succ _)), HEL, HCN, Lib.hid (fun _ => HC2.out), HK6, Lib.hid ((HP6.out.2.2.2.2 B HAB.out.1).trans HE5.out), Lib.hid (fun k hk => HP6.out.2.2.2.2 k (HAB.out.2 k hk)), Lib.hid (HBB.out _ HP6.out)⟩
                        · have hg : g = 0 := hg0
                          subst hg
                          have hno : nn = s1.last + 1 := hno0
                          clear hno0 hg0
                          have hla := HI1.out.last
                          have hl0 := HINV.out.last.1
                          obtain ⟨m, hm⟩ : ∃ m : Nat, nn = (m : Int) := ⟨nn.toNat, by omega⟩
                          have hm1 : 1 ≤ m ∧ m ≤ 100 := by omega
                          have hmt : (s1.last + 1).toNat = m := by omega
                          subst hm
                          rw [hmt] at hc
                          obtain ⟨u, hud⟩ : ∃ u, (getL s1.R pb).2.2 = u := ⟨_, rfl⟩
                          rw [hud] at hu hc
                          have hub : u ≤ 1099511627776 := by have := HINV.out.rok _ hmem; omega
                          have HC := Lib.hid (show CapInv own (a, b, c, d, e, f) (i + 1) (E.set m (u + 30)) s2 from hc)
                          have HHAS := Lib.hid hhas
                          have HUD := Lib.hid hud
                          have b5 : decide ((m : Int) < 1) = false := decide_eq_false (by omega)
                          have b6 : decide ((m : Int) > 100) = false := decide_eq_false (by omega)
                          have HM1 := Lib.hid (show 1 ≤ m ∧ m ≤ 100 ∧ now2 < u ∧ u ≤ 1099511627776 from ⟨hm1.1, hm1.2, hu, hub⟩)
                          clear hc hhas hud hno hla hl0 hmt hmem hu hub
                          go_upto_region 28 with (go_at_call 14; (with_reducible refine KC.out.mono ?_); rintro en w6 ⟨rfl, hk, hkp⟩; have HK6 := Lib.hid hk; have HP6 := Lib.hid hkp; clear hk hkp)
                          have hE6 := (HP6.out.2.2.2.2 B HAB.out.1).trans HE5.out
                          have hD6 := (HP6.out.2.2.2.2 D (by rw [HAV.out]; exact .inl (.inr rfl))).trans HD5.out
                          have HE6 := Lib.hid (show w6.heap[B]? = some (endO (endK s1.R pb E m (u + 30) 0)) by rw [endK_zero]; exact hE6)
                          have HD6 := Lib.hid hD6
                          have HND := Lib.hid (show B ≠ D ∧ B < w5.heap.size from ⟨fun e => by have h1 := HE5.out; have h2 := HD5.out; rw [e, h2] at h1; injection h1 with h1; injection h1 with _ h1; exact absurd h1 (by decide), (Array.getElem?_eq_some_iff.1 HE5.out).1⟩)
                          clear d0 d1 d2 d3 d4 d5 d6 hE6 hD6 b5 b6 hm1
                          go_loopw [18] (fun x18 wr => ∃ k : Nat, x18 = .int .i64 k ∧ k ≤ n1 ∧ Hid (wr.heap[B]? = some (endO (endK s1.R pb E m (u + 30) k))) ∧ Hid (Sp.Off (fun j => j = B) w6 wr) ∧ Hid (wr.os = w6.os ∧ wr.tape = w6.tape ∧ wr.output = w6.output)) (fun x18 _ => n1 - (intOf x18).toNat)
                          case atStart => exact ⟨0, rfl, Nat.zero_le _, HE6, Lib.hid (Sp.Off.refl _ _), Lib.hid ⟨rfl, rfl, rfl⟩⟩
                          case round =>
                            clear HE6
                            obtain ⟨k, rfl, hk, HE7, HO7, HQ7⟩ := hrel
                            have hD7 := (HO7.out.2 D (Array.getElem?_eq_some_iff.1 HD6.out).1 (fun e => HND.out.1 e.symm)).trans HD6.out
                            obtain ⟨d0, d1, d2, d3, d4, d5, d6⟩ := do_cells hD7
                            by_cases hk1 : k < n1
                            · have b5 : decide ((k : Int) < (n1 : Int)) = true := decide_eq_true (by omega)
                              have hkL : k < s1.R.length := by rw [HN1.out]; exact hk1
                              have hkI : (k : Int) < (n1 : Int) := by omega
                              obtain ⟨gr, rfl, y0, y2, hgB⟩ : ∃ gr, A1 = some ⟨gr, 0, none⟩ ∧ wr.cell? ⟨gr, k * 3, none⟩ = some (.int .i64 s1.R[k].1) ∧ wr.cell? ⟨gr, k * 3 + 2, none⟩ = some (.int .i64 s1.R[k].2.2) ∧ gr ≠ B := by
                                rcases HR1.out with h | ⟨gr, h1, _, h2, _, h3⟩
                                · omega
                                · have hgb : gr ≠ B := fun e => by
                                    obtain ⟨cur, hcur⟩ := (rowH_block HO1.out gr (by rw [h1]; rfl)).2
                                    have h5 := HE5.out
                                    rw [← e, hcur] at h5
                                    injection h5 with h5
                                    injection h5 with _ h5
                                    exact absurd h5 (by decide)
                                  have hblk : wr.heap[gr]? = w5.heap[gr]? := (HO7.out.2 gr (Nat.lt_of_lt_of_le h2 HP6.out.2.2.2.1) hgb).trans (HP6.out.2.2.2.2 gr (HAB.out.2 gr (.inl (by rw [h1]; rfl))))
                                  have h := h3 wr hblk k hkL
                                  exact ⟨gr, h1, h.1, h.2.2, hgb⟩
                              have hhu : s1.R[k].1 = pb → s1.R[k].2.2 = u := fun e => (held_until HINV.out.ris hkL e).trans HUD.out
                              have hky : s1.R[k].1 = pb → _ := endK_yes pb E m (u + 30) hkL
                              have hkn : s1.R[k].1 ≠ pb → _ := endK_no pb E m (u + 30) hkL
                              obtain ⟨⟨z0, z1, z2⟩, hz⟩ : ∃ q, s1.R[k] = q := ⟨_, rfl⟩
                              rw [hz] at y0 y2 hhu hky hkn
                              dsimp only at y0 y2 hhu hky hkn
                              have HKY := Lib.hid hky
                              have HKN := Lib.hid hkn
                              clear hz hkL hky hkn
                              go_upto_region 30 with fail
                              refine wp_region_held_drew (S := fun w' => w'.cell? ⟨gr, k * 3, none⟩ = some (.int .i64 z0) ∧ w'.cell? ⟨D, 3, none⟩ = some (.int .i64 pb)) (by kernel_rfl) ?_ (fun hHeld => ?_)
                              · exact ⟨y0, d3⟩
                              refine wpAnyH_take (i := 0) (v := ?_) rfl (by kernel_rfl) (by kernel_rfl) (by kernel_rfl) (fun _ _ _ h => h) (Or.inl ⟨by rfl, ?_⟩) (by assumption) ?_
                              rotate_left
                              · (intro w hSw; (try dsimp only at hSw); go_simp; try with_reducible rfl)
                              try simp only [Act.put, List.setIfInBounds_toArray, List.set_cons_zero, List.set_cons_succ, List.getElem_toArray, List.getElem_cons_succ, List.getElem_cons_zero]
                              refine wpAnyH_take (i := 1) (v := ?_) rfl (by kernel_rfl) (by kernel_rfl) (by kernel_rfl) (fun _ _ _ h => h) (Or.inl ⟨by rfl, ?_⟩) (by assumption) ?_
                              rotate_left
                              · (intro w hSw; (try dsimp only at hSw); go_simp; try with_reducible rfl)
                              try simp only [Act.put, List.setIfInBounds_toArray, List.set_cons_zero, List.set_cons_succ, List.getElem_toArray, List.getElem_cons_succ, List.getElem_cons_zero]
                              refine wpAnyH_take (i := 2) (v := ?_) rfl (by kernel_rfl) (by kernel_rfl) (by kernel_rfl) (fun _ _ _ h => h) (Or.inl ⟨by rfl, ?_⟩) (by assumption) ?_
                              rotate_left
                              · (intro w hSw; (try dsimp only at hSw); go_simp; try with_reducible rfl)
                              try simp only [Act.put, List.setIfInBounds_toArray, List.set_cons_zero, List.set_cons_succ, List.getElem_toArray, List.getElem_cons_succ, List.getElem_cons_zero]
                              refine wpAnyH_take (i := 3) (v := ?_) rfl (by kernel_rfl) (by kernel_rfl) (by kernel_rfl) (fun _ _ _ h => h) (Or.inl ⟨by rfl, ?_⟩) (by assumption) ?_
                              rotate_left
                              · (intro w hSw; (try dsimp only at hSw); go_simp; try with_reducible rfl)
                              try simp only [Act.put, List.setIfInBounds_toArray, List.set_cons_zero, List.set_cons_succ, List.getElem_toArray, List.getElem_cons_succ, List.getElem_cons_zero]
                              refine wpAnyH_take (i := 4) (v := ?_) rfl (by kernel_rfl) (by kernel_rfl) (by kernel_rfl) (fun _ _ _ h => h) (Or.inl ⟨by rfl, ?_⟩) (by assumption) ?_
                              rotate_left
                              · (intro w hSw; (try dsimp only at hSw); go_simp; try with_reducible rfl)
                              try simp only [Act.put, List.setIfInBounds_toArray, List.set_cons_zero, List.set_cons_succ, List.getElem_toArray, List.getElem_cons_succ, List.getElem_cons_zero]
                              refine wpAnyH_take (i := 5) (v := ?_) rfl (by kernel_rfl) (by kernel_rfl) (by kernel_rfl) (fun _ _ _ h => h) (Or.inl ⟨by rfl, ?_⟩) (by assumption) ?_
                              rotate_left
                              · (intro w hSw; (try dsimp only at hSw); go_simp; try with_reducible rfl)
                              try simp only [Act.put, List.setIfInBounds_toArray, List.set_cons_zero, List.set_cons_succ, List.getElem_toArray, List.getElem_cons_succ, List.getElem_cons_zero]
                              refine wpAnyH_take (i := 6) (v := ?_) rfl (by kernel_rfl) (by kernel_rfl) (by kernel_rfl) (fun _ _ _ h => h) (Or.inl ⟨by rfl, ?_⟩) (by assumption) ?_
                              rotate_left
                              · (intro w hSw; (try dsimp only at hSw); go_simp; try with_reducible rfl)
                              try simp only [Act.put, List.setIfInBounds_toArray, List.set_cons_zero, List.set_cons_succ, List.getElem_toArray, List.getElem_cons_succ, List.getElem_cons_zero]
                              refine wpAnyH_take (i := 7) (v := ?_) rfl (by kernel_rfl) (by kernel_rfl) (by kernel_rfl) (fun _ _ _ h => h) (Or.inl ⟨by rfl, ?_⟩) (by assumption) ?_
                              rotate_left
                              · (intro w hSw; (try dsimp only at hSw); go_simp; try with_reducible rfl)
                              try simp only [Act.put, List.setIfInBounds_toArray, List.set_cons_zero, List.set_cons_succ, List.getElem_toArray, List.getElem_cons_succ, List.getElem_cons_zero]
                              refine wpAnyH_done (by kernel_rfl) ?_ _
                              have HOd := Lib.hid (HO7.out.trans (Sp.Off.below (drew_below wr)))
                              by_cases hp : z0 = pb
                              · have b6 : (z0 == pb) = true := by simpa using hp
                                have hz2 := hhu hp
                                subst hz2
                                have hlen : m < (endK s1.R pb E m (z2 + 30) k).length := by rw [endK_len, HEL.out]; have := HM1.out; omega
                                have hEd : wr.drew.heap[B]? = some (endO (endK s1.R pb E m (z2 + 30) k)) := HE7.out
                                have y3 := end_cell hEd m hlen
                                have f3 := frozen_cellsN hEd m
                                have hmI : (m : Int) < 102 := by have := HM1.out; omega
                                have hw3 : wrap64 (z2 + 30) = z2 + 30 := by have := HM1.out; have := HT2.out; unfold wrap64; omega
                                have HSET := Lib.hid (end_set hEd m (z2 + 30))
                                have HKK := Lib.hid (HKY.out hp)
                                clear hhu hlen hEd
                                go_wp2
                                go_roundw
                                case rel => exact ⟨k + 1, by go_num, by omega, Lib.hid (by rw [← HKK.out]; exact HSET.out), Lib.hid (HOd.out.trans (Sp.Off.set (ok := fun j => j = B) wr.drew (p := ⟨B, m, none⟩) rfl (.int .i64 (z2 + 30)))), HQ7⟩
                                case measure => simp [intOf]; omega
                              · have b6 : (z0 == pb) = false := by simpa using hp
                                have HKK := Lib.hid (HKN.out hp)
                                clear hhu
                                go_wp2
                                go_roundw
                                case rel => exact ⟨k + 1, by go_num, by omega, Lib.hid (by rw [HKK.out]; exact HE7.out), HOd, HQ7⟩
                                case measure => simp [intOf]; omega
                            · have b5 : decide ((k : Int) < (n1 : Int)) = false := decide_eq_false (by omega)
                              have hEf : wr.heap[B]? = some (endO (E.set m (u + 30))) := by rw [← endK_all E m (u + 30) HHAS.out (k := k) (by rw [HN1.out]; omega)]; exact HE7.out
                              have hml : m < (E.set m (u + 30)).length := by rw [List.length_set, HEL.out]; have := HM1.out; omega
                              have y3 := end_cell hEf m hml
                              have hgd : (E.set m (u + 30)).getD m 0 = u + 30 := by rw [List.getD_eq_getElem?_getD, List.getElem?_set_self (by rw [List.length_set] at hml; exact hml)]; rfl
                              rw [hgd] at y3
                              have b6 : (u + 30 == 0) = false := by have := HM1.out; have := HT2.out; simp; omega
                              have hmI : (m : Int) < 102 := by have := HM1.out; omega
                              have HEf := Lib.hid hEf
                              have HKf := Lib.hid (HK6.out.offB (fun j => j = B) (fun j e => by rw [e]; exact HAB.out.1) HO7.out)
                              clear hEf hml hgd
                              go_wp2
                              go_meet
                              case rel => exact ⟨s2, _, 0, rfl, HC, Lib.hid (by rw [List.length_set]; exact HEL.out), HCN, Lib.hid (fun h => absurd rfl h), HKf, HEf, Lib.hid (fun j hj => by
                                have hjl : j < w5.heap.size := HK5.out.lt j (HAB.out.2 j hj)
                                have hjB : j ≠ B := fun e => by
                                  subst e
                                  have h5 := HE5.out
                                  rcases hj with hj | hj
                                  · obtain ⟨cur, hcur⟩ := (rowH_block HO1.out j hj).2
                                    rw [hcur] at h5
                                    injection h5 with h5
                                    injection h5 with _ h5
                                    exact absurd h5 (by decide)
                                  · obtain ⟨cur, hcur⟩ := own_typed HO2.out hj
                                    rw [hcur] at h5
                                    injection h5 with h5
                                    injection h5 with _ h5
                                    exact absurd h5 (by decide)
                                exact (HO7.out.2 j (Nat.lt_of_lt_of_le hjl HP6.out.2.2.2.1) hjB).trans (HP6.out.2.2.2.2 j (HAB.out.2 j hj))), Lib.hid (HB5.out.trans (show Below W.heap.size w5 wr from ⟨HQ7.out.1.trans HP6.out.1, HQ7.out.2.1.trans HP6.out.2.1, HQ7.out.2.2.trans HP6.out.2.2.1, Nat.le_trans HP6.out.2.2.2.1 HO7.out.1, fun j hj => (HO7.out.2 j (Nat.lt_of_lt_of_le (Nat.lt_of_lt_of_le hj HB5.out.size) HP6.out.2.2.2.1) (fun e => by have := HWB.out; omega)).trans (HP6.out.2.2.2.2 j (by rw [HAV.out]; exact .inl (.inl (.inl hj))))⟩))⟩
                      · have p1 : (kd == 1) = false := by simpa using z1
                        clear z1
                        by_cases z2 : kd = 2
                        · subst z2
                          have KF := fwd_k HK5.out (by omega) now2 no pa Ab nb cb (Int.le_of_eq HS1.out) (by have := HT2.out; omega) (by have := HXi.out; omega)
                          unfold FwdK at KF
                          have hcf := cap_fwd HI1.out HSELF.out.2.1 no pa (nb : Int)
                          obtain ⟨⟨too, g, s2⟩, hq⟩ : ∃ q, FwdF s1 now2 no pa nb = q := ⟨_, rfl⟩
                          have hsn : s2.now = now2 := by have := congrArg (fun q => q.2.2.now) hq; exact this.symm
                          rw [hq] at KF hcf
                          have KF := Lib.hid KF
                          have HC := Lib.hid (show CapInv own (a, b, c, d, e, f) i E s2 from hcf.1)
                          have HSN2 := Lib.hid (Int.le_of_eq hsn)
                          have hcf2 : g = 0 → _ := hcf.2
                          clear hq hcf hsn
                          by_cases hg : g = 0
                          · obtain ⟨h1, h2, h3⟩ := hcf2 hg
                            subst hg
                            have hla := HI1.out.last
                            have b5 : decide (no < 1) = false := decide_eq_false (by omega)
                            have b6 : decide (no > 100) = false := decide_eq_false (by omega)
                            obtain ⟨m, rfl⟩ : ∃ m : Nat, no = (m : Int) := ⟨no.toNat, by omega⟩
                            rw [Int.toNat_natCast] at h3
                            obtain ⟨ev, hev⟩ : ∃ ev, E.getD m 0 = ev := ⟨_, rfl⟩
                            rw [hev] at h3
                            have b7 : decide (now2 ≥ ev) = false := decide_eq_false (by omega)
                            have b7' : decide (ev ≤ now2) = false := decide_eq_false (by omega)
                            have hmI : (m : Int) < 102 := by omega
                            have hml : m < E.length := by rw [HEL.out]; omega
                            have HEC := Lib.hid (fun (V : World) (h : V.heap[B]? = some (endO E)) => (show V.cell? ⟨B, m, none⟩ = some (.int .i64 ev) by rw [← hev]; exact end_cell h m hml))
                            clear h1 h2 h3 hla hev hml hcf2
                            go_wp2_with (go_at_call 15; (with_reducible refine KF.out.mono ?_); rintro en w6 ⟨rfl, hk, hkp⟩; have HK6 := Lib.hid hk; have HP6 := Lib.hid hkp; have HE6 := Lib.hid ((hkp.2.2.2.2 B HAB.out.1).trans HE5.out); have y3 := HEC.out w6 HE6.out; have hD6 := (hkp.2.2.2.2 D (by rw [HAV.out]; exact .inl (.inr rfl))).trans HD5.out; have y4 := (do_cells hD6).2.2.2.2.1; clear hk hkp hD6)
                            go_meet
                            case rel => exact ⟨s2, E, 0, rfl, Lib.hid (HC.out.mono (Nat.le_succ _)), HEL, HSN2, Lib.hid (fun h => absurd rfl h), Lib.hid (HK6.out.mono (Nat.le_succ _)), HE6, Lib.hid (fun k hk => HP6.out.2.2.2.2 k (HAB.out.2 k hk)), Lib.hid (HBB.out _ HP6.out)⟩
                          · have b5 : (g == 0) = false := by simpa using hg
                            clear hg hcf2
                            go_wp2_with (go_at_call 15; (with_reducible refine KF.out.mono ?_); rintro en w6 ⟨rfl, hk, hkp⟩; have HK6 := Lib.hid hk; have HP6 := Lib.hid hkp; have HE6 := Lib.hid ((hkp.2.2.2.2 B HAB.out.1).trans HE5.out); clear hk hkp)
                            go_meet
                            case rel => exact ⟨s2, E, 0, rfl, Lib.hid (HC.out.mono (Nat.le_succ _)), HEL, HSN2, Lib.hid (fun h => absurd rfl h), Lib.hid (HK6.out.mono (Nat.le_succ _)), HE6, Lib.hid (fun k hk => HP6.out.2.2.2.2 k (HAB.out.2 k hk)), Lib.hid (HBB.out _ HP6.out)⟩
                        · have p2 : (kd == 2) = false := by simpa using z2
                          clear z2
                          go_wp2
                          go_meet
                          case rel => exact ⟨s1, E, 0, rfl, Lib.hid (HI1.out.mono (Nat.le_succ _)), HEL, Lib.hid (Int.le_of_eq HS1.out), Lib.hid (fun h => absurd rfl h), Lib.hid (HK5.out.mono (Nat.le_succ _)), HE5, Lib.hid (fun _ _ => rfl), HB5⟩
                case rest =>
                  obtain ⟨s2, E2, fc, rfl, HI2, HEL2, HSN2, HF, HK6, HE6, HOW, HB6⟩ := hcut
                  obtain ⟨Wx, rfl⟩ : ∃ Y, Y = wc := ⟨_, rfl⟩
                  have hx100 := HXi.out
                  have k9 := st_k HK6.out (show i + 1 ≤ 9000 by omega) now2 HSN2.out (by have := HT2.out; omega)
                  unfold StK at k9
                  have HI3 := Lib.hid (cap_st HI2.out now2)
                  obtain ⟨R2, hR2⟩ : ∃ q, overL s2.R now2 = q := ⟨_, rfl⟩
                  obtain ⟨C2, hC2⟩ : ∃ q, liveC s2.C now2 = q := ⟨_, rfl⟩
                  have hrc : (R2.length : Int) ≤ a := by have := HI3.out.rcap; rw [← hR2]; exact this
                  have hcc : (C2.length : Int) ≤ c := by have := HI3.out.ccap; rw [← hC2]; exact this
                  have hf := HF.out
                  rw [hR2, hC2] at k9 hf
                  have K9 := Lib.hid k9
                  have HF2 := Lib.hid hf
                  clear k9 hf hR2 hC2 d0 d1 d2 d3 d4 d5 d6
                  obtain ⟨n3, hn3⟩ : ∃ n, R2.length = n := ⟨_, rfl⟩
                  obtain ⟨n4, hn4⟩ : ∃ n, C2.length = n := ⟨_, rfl⟩
                  rw [hn3] at hrc
                  rw [hn4] at hcc
                  have HN3 := Lib.hid hn3
                  have HN4 := Lib.hid hn4
                  clear hn3 hn4
                  go_upto_region 39 with (go_at_call 16; (with_reducible refine K9.out.mono ?_); rintro en w9 ⟨v3, v4, sz9, rfl, ho3, ho4, hz, hk, hkp⟩; have HO3 := Lib.hid ho3; have HO4 := Lib.hid ho4; have HK9 := Lib.hid hk; have HP9 := Lib.hid hkp; have HB9 := Lib.hid (show Below W.heap.size W w9 from HB6.out.trans (hkp.toBelow (fun i hi => by rw [HAV.out]; exact .inl (.inl (.inl hi))) HB6.out.size)); clear ho3 ho4 hz hk hkp)
                  obtain ⟨A3, c3, hv3, hr3⟩ := rowH_cells HO3.out
                  obtain ⟨A4, c4, hv4, hr4⟩ := row_at HO4.out
                  rw [HN3.out] at hv3
                  rw [HN4.out] at hv4
                  subst hv3 hv4
                  have HR3 := Lib.hid hr3
                  have HR4 := Lib.hid hr4
                  clear hr3 hr4
                  obtain ⟨e0, e1, e2, e3, e4, e5⟩ := LC.out w9 HB9.out
                  have b5 : decide ((n3 : Int) > a) = false := decide_eq_false (by omega)
                  have b6 : decide ((n4 : Int) > c) = false := decide_eq_false (by omega)
                  have HE9 := Lib.hid ((HP9.out.2.2.2.2 B (by rw [HAV.out]; exact .inl (.inl (.inr rfl)))).trans HE6.out)
                  have HEND := Lib.hid (show ∀ V : World, Below w9.heap.size w9 V → ∃ (i' : Nat) (now' : Int) (s' : RelS) (E' : List Int), Value.int .i64 now2 = .int .i64 now' ∧ Value.int .i64 ((i : Int) + 1) = .int .i64 i' ∧ i' ≤ 100 ∧ 0 ≤ now' ∧ now' ≤ 1000 * i' ∧ Hid (CapInv own (a, b, c, d, e, f) i' E' s') ∧ Hid (E'.length = 102) ∧ Hid (s'.now ≤ now') ∧ Hid (RelK i' V r gN s' (fun k => k < W.heap.size ∨ k = B)) ∧ Hid (V.heap[B]? = some (endO E')) ∧ Hid (Below W.heap.size W V) from fun V hV =>
                    ⟨i + 1, now2, _, E2, rfl, by go_num, by omega, HT2.out.1, by have := HXi.out; have := HNB.out; omega, HI3, HEL2, Lib.hid (Int.le_refl _), Lib.hid ((HK9.out.step hV).sub (fun k hk => .inl (.inl (by rw [HAV.out]; exact .inl (.inl hk))))), Lib.hid ((hV.block B (Array.getElem?_eq_some_iff.1 HE9.out).1).trans HE9.out), Lib.hid (HB9.out.trans (hV.mono HB9.out.size))⟩)
                  clear hrc hcc
                  by_cases hfc : fc = 0
                  · subst hfc
                    go_wp2
                    go_roundw
                    case rel => exact HEND.out _ (Below.refl _ _)
                    case measure => simp [intOf]; omega
                  · have b7 : (fc == 0) = false := by simpa using hfc
                    obtain ⟨f1, f2⟩ := HF2.out hfc
                    have e13 : n3 = n1 := by rw [← HN3.out, f1, HN1.out]
                    have e24 : n4 = n2 := by rw [← HN4.out, f2, HN2.out]
                    subst e13 e24
                    have hk1 : ∀ k, ((Value.slice A1 n3 c1).ownBlock = some k ∨ (Value.slice A2 n4 c2).ownBlock = some k) → k < w9.heap.size ∧ w9.heap[k]? = w5.heap[k]? := fun k hk => ⟨Nat.lt_of_lt_of_le (HK6.out.lt k (by rw [HAV.out]; exact .inr hk)) HP9.out.2.2.2.1, (HP9.out.2.2.2.2 k (by rw [HAV.out]; exact .inr hk)).trans (HOW.out k hk)⟩
                    have l3 : ∀ gr, A3 = some ⟨gr, 0, none⟩ → gr < w9.heap.size ∧ w9.heap[gr]? = w9.heap[gr]? := fun gr h => ⟨own_lt HO3.out (by rw [h]; rfl), rfl⟩
                    have l4 : ∀ gr, A4 = some ⟨gr, 0, none⟩ → gr < w9.heap.size := fun gr h => own_lt HO4.out (by rw [h]; rfl)
                    have KH := Lib.hid (helds_same w9 A3 A1 c3 c1 n3 s1.R HN1.out (by omega) (hrow_move (W := w9) (by have h := HR3.out; rw [f1] at h; exact h) HN1.out l3) (hrow_move HR1.out HN1.out (fun gr h => hk1 gr (.inl (by rw [h]; rfl)))))
                    have KI := Lib.hid (fun (V : World) (hV : Below w9.heap.size w9 V) => cirs_same V A4 A2 c4 c2 n4 s1.C HN2.out (by omega)
                      (rowAt_move (W := w9) (by have h := HR4.out; rw [f2] at h; exact h) HN2.out (fun gr h => ⟨Nat.lt_of_lt_of_le (l4 gr h) hV.size, hV.block gr (l4 gr h)⟩))
                      (rowAt_move HR2.out HN2.out (fun gr h => by have hk := hk1 gr (.inr (by rw [h]; rfl)); exact ⟨Nat.lt_of_lt_of_le hk.1 hV.size, (hV.block gr hk.1).trans hk.2⟩)))
                    clear hk1 f1 f2
                    go_wp2_with (first
                      | (go_at_call 19; (with_reducible refine KH.out.mono ?_); rintro en w10 ⟨rfl, hb⟩; have HB10 := Lib.hid hb; clear hb)
                      | (go_at_call 20; (with_reducible refine (KI.out _ HB10.out).mono ?_); rintro en w11 ⟨rfl, hb⟩; have HB11 := Lib.hid (HB10.out.trans (hb.mono HB10.out.size)); clear hb))
                    go_roundw
                    case rel => exact HEND.out _ HB11.out
                    case measure => simp [intOf]; omega
          · have b2 : decide ((i : Int) < 100) = false := decide_eq_false (by omega)
            go_wp2
            go_ret
            exact ⟨rfl, HBW.out.trans (HBr.out.mono (Nat.le_of_lt HLT.out))⟩
        · have b1 : decide ((i : Int) < (ns : Int)) = false := decide_eq_false (by omega)
          go_wp2
          go_ret
          exact ⟨rfl, HBW.out.trans (HBr.out.mono (Nat.le_of_lt HLT.out))⟩
    · have HM := Lib.hid hm
      clear hm
      refine wp_region_held_drew (S := fun w' => w'.cell? ⟨w.heap.size, 0, none⟩ = some (.int .i64 a) ∧ w'.cell? ⟨w.heap.size, 1, none⟩ = some (.int .i64 b) ∧ w'.cell? ⟨w.heap.size, 2, none⟩ = some (.int .i64 c) ∧ w'.cell? ⟨w.heap.size, 3, none⟩ = some (.int .i64 d) ∧ w'.cell? ⟨w.heap.size, 4, none⟩ = some (.int .i64 e) ∧ w'.cell? ⟨w.heap.size, 5, none⟩ = some (.int .i64 f)) (by kernel_rfl) ?_ (fun hHeld => ?_)
      · exact ⟨c0, c1, c2, c3, c4, c5⟩
      refine wpAnyH_take (i := 0) (v := ?_) rfl (by kernel_rfl) (by kernel_rfl) (by kernel_rfl) (fun _ _ _ h => h) (Or.inl ⟨by rfl, ?_⟩) (by assumption) ?_
      rotate_left
      · (intro w hSw; (try dsimp only at hSw); go_simp; try with_reducible rfl)
      try simp only [Act.put, List.setIfInBounds_toArray, List.set_cons_zero, List.set_cons_succ, List.getElem_toArray, List.getElem_cons_succ, List.getElem_cons_zero]
      refine wpAnyH_take (i := 1) (v := ?_) rfl (by kernel_rfl) (by kernel_rfl) (by kernel_rfl) (fun _ _ _ h => h) (Or.inl ⟨by rfl, ?_⟩) (by assumption) ?_
      rotate_left
      · (intro w hSw; (try dsimp only at hSw); go_simp; try with_reducible rfl)
      try simp only [Act.put, List.setIfInBounds_toArray, List.set_cons_zero, List.set_cons_succ, List.getElem_toArray, List.getElem_cons_succ, List.getElem_cons_zero]
      refine wpAnyH_ready (rs := [2]) (by kernel_rfl) (by simp) ?_
      refine AllReadyH.cons rfl (fun K hK => ?_) AllReadyH.nil
      go_simp
      go_at_call 10; refine (Nt.one_new _).mono ?_; rintro en w3 ⟨gN, rfl, hN, hb⟩; have HN := Lib.hid hN; have HB3 := Lib.hid (show Below W.heap.size W w3 from (HB1.out.trans (drew_below w1 |>.mono HB1.out.size)).trans (hb.mono HB1.out.size)); have hl3 := LC.out w3 HB3.out; clear hN hb
      refine hK.out _ _ ?_ (fun hHeld => ?_)
      · exact hl3
      clear hK K
      try simp only [Act.put, List.setIfInBounds_toArray, List.set_cons_zero, List.set_cons_succ, List.getElem_toArray, List.getElem_cons_succ, List.getElem_cons_zero]
      refine wpAnyH_ready (rs := [3]) (by kernel_rfl) (by simp) ?_
      refine AllReadyH.cons rfl (fun K hK => ?_) AllReadyH.nil
      go_simp
      go_at_call 11; refine (rnew_bad w3 own a b c d e f gN HM.out).mono ?_; rintro en w4 ⟨rfl, hb⟩; have HB4 := Lib.hid (show Below W.heap.size W w4 from HB3.out.trans (hb.mono HB3.out.size)); have hl4 := LC.out w4 HB4.out; clear hb
      refine hK.out _ _ ?_ (fun hHeld => ?_)
      · exact hl4
      clear hK K
      try simp only [Act.put, List.setIfInBounds_toArray, List.set_cons_zero, List.set_cons_succ, List.getElem_toArray, List.getElem_cons_succ, List.getElem_cons_zero]
      refine wpAnyH_take (i := 4) (v := ?_) rfl (by kernel_rfl) (by kernel_rfl) (by kernel_rfl) (fun _ _ _ h => h) (Or.inl ⟨by rfl, ?_⟩) (by assumption) ?_
      rotate_left
      · (intro w hSw; (try dsimp only at hSw); go_simp; try with_reducible rfl)
      try simp only [Act.put, List.setIfInBounds_toArray, List.set_cons_zero, List.set_cons_succ, List.getElem_toArray, List.getElem_cons_succ, List.getElem_cons_zero]
      refine wpAnyH_take (i := 5) (v := ?_) rfl (by kernel_rfl) (by kernel_rfl) (by kernel_rfl) (fun _ _ _ h => h) (Or.inl ⟨by rfl, ?_⟩) (by assumption) ?_
      rotate_left
      · (intro w hSw; (try dsimp only at hSw); go_simp; try with_reducible rfl)
      try simp only [Act.put, List.setIfInBounds_toArray, List.set_cons_zero, List.set_cons_succ, List.getElem_toArray, List.getElem_cons_succ, List.getElem_cons_zero]
      refine wpAnyH_take (i := 6) (v := ?_) rfl (by kernel_rfl) (by kernel_rfl) (by kernel_rfl) (fun _ _ _ h => h) (Or.inl ⟨by rfl, ?_⟩) (by assumption) ?_
      rotate_left
      · (intro w hSw; (try dsimp only at hSw); go_simp; try with_reducible rfl)
      try simp only [Act.put, List.setIfInBounds_toArray, List.set_cons_zero, List.set_cons_succ, List.getElem_toArray, List.getElem_cons_succ, List.getElem_cons_zero]
      refine wpAnyH_take (i := 7) (v := ?_) rfl (by kernel_rfl) (by kernel_rfl) (by kernel_rfl) (fun _ _ _ h => h) (Or.inl ⟨by rfl, ?_⟩) (by assumption) ?_
      rotate_left
      · (intro w hSw; (try dsimp only at hSw); go_simp; try with_reducible rfl)
      try simp only [Act.put, List.setIfInBounds_toArray, List.set_cons_zero, List.set_cons_succ, List.getElem_toArray, List.getElem_cons_succ, List.getElem_cons_zero]
      refine wpAnyH_take (i := 8) (v := ?_) rfl (by kernel_rfl) (by kernel_rfl) (by kernel_rfl) (fun _ _ _ h => h) (Or.inl ⟨by rfl, ?_⟩) (by assumption) ?_
      rotate_left
      · (intro w hSw; (try dsimp only at hSw); go_simp; try with_reducible rfl)
      try simp only [Act.put, List.setIfInBounds_toArray, List.set_cons_zero, List.set_cons_succ, List.getElem_toArray, List.getElem_cons_succ, List.getElem_cons_zero]
      refine wpAnyH_done (by kernel_rfl) ?_ _
      go_wp2
      go_ret
      exact ⟨rfl, HBW.out.trans (HB4.out.mono (Nat.le_of_lt HLT.out))⟩
end Go.Proofs.Yteajlffchdbkjaa.Re
namespace Go.Proofs.Yteajlffchdbkjaa.Re
open Go.RowKit Go.Maps Go.Shelf Go.Proofs.Yteajlffchdbkjaa.Rv Go.Proofs.YteajlffchdbkjaaW.PrintWords
set_option linter.unusedVariables false
theorem opens_Do : Op.Opens Try.prog 56 dDo (fun _ => True) :=
  Op.opens_mono (Op.opens_struct Try.underlying56 (by kernel_rfl)
    (Op.opensF_cons rfl (by kernel_rfl) (Op.opens_int Try.underlying3)
      (Op.opensF_cons rfl (by kernel_rfl) (Op.opens_int Try.underlying3)
        (Op.opensF_cons rfl (by kernel_rfl) (Op.opens_int Try.underlying3)
          (Op.opensF_cons rfl (by kernel_rfl) (Op.opens_int Try.underlying3)
            (Op.opensF_cons rfl (by kernel_rfl) (Op.opens_int Try.underlying3)
              (Op.opensF_cons rfl (by kernel_rfl) (Op.opens_int Try.underlying28)
                (Op.opensF_one rfl (by kernel_rfl) (Op.opens_slice Try.underlying36 (by kernel_rfl) (Op.opens_int Try.underlying5))))))))))
    (fun y h => trivial)
theorem opens_script : Op.Opens Try.prog 52 (Kd.slice 56 dDo) (fun _ => True) := Op.opens_mono (Op.opens_slice Try.underlying52 (by kernel_rfl) opens_Do) (fun y h => trivial)
theorem caps_row (own : Int) (cs : Array Value) (x : LimV) (As : Option Addr) (c : Nat) (ls : List Stp) (w : World) (ho : (Lit.int .i64 own).wf = true) (hr : dLim.K w x (Value.agg cs).cells.toList) (hw : True)
    (h1 : dDo.C w As ls.length ls) (hc : ls.length ≤ c) (hb : ls.length * 72 ≤ 140737488351232) (hok : True) :
    Calls Try.prog 5 #[.int .i64 own, .agg cs, .slice As ls.length c] w fun e w' => e = .returned (.bool true) ∧ Below w.heap.size w w' := by
  obtain rfl := lim_cells_of hr
  exact caps_calls w own x.1 x.2.1 x.2.2.1 x.2.2.2.1 x.2.2.2.2.1 x.2.2.2.2.2 As ls.length c ls h1 rfl hc (by omega)
end Go.Proofs.Yteajlffchdbkjaa.Re
