/-
  The notary's Check: what it answers, whatever entries the notary holds; it writes nothing. Conditions: as in the text that it imports.
-/
import Derived.Test.YtmidmdbhbhjcdaaNt
import Derived.Lib.Bytes
namespace Go.Proofs.Ytmidmdbhbhjcdaa.Nt
open Go.RowKit Go.Maps Go.Lib Go.Proofs.YtmidmdbhbhjcdaaW.PrintWords Go.Proofs.YtmidmdbhbhjcdaaW.PrintLast Go.Proofs.YtmidmdbhbhjcdaaW.PrintMore
set_option linter.unusedVariables false
set_option linter.unusedSimpArgs false
/-! ### Check -/
theorem eqE (d : Nat) (w : World) (x y : Int) (s t : ByteArray) : (Op.equalIn (d + 2) 58 (.agg #[.int .i64 x, .string s]) (.agg #[.int .i64 y, .string t])).run Try.prog w = .ok (x == y && (s.toList == t.toList)) w := by
  refine eqA_of Try.underlying58 (by kernel_rfl) ?_
  refine eqf_cons (by rfl) (by go_simp; rfl) (by go_simp; rfl) (by go_simp) ?_
  exact eqf_last (by rfl) (by go_simp; rfl) (by go_simp; rfl) (by go_simp)
attribute [local go_sem high] eqE
theorem eqE' (w : World) (x y : Int) (s t : ByteArray) : (Op.equal 58 (.agg #[.int .i64 x, .string s]) (.agg #[.int .i64 y, .string t])).run Try.prog w = .ok (x == y && (s.toList == t.toList)) w := eqE _ w x y s t
theorem beq_str {a b : List Int} (ha : ∀ x ∈ a, 0 ≤ x ∧ x ≤ 255) (hb : ∀ x ∈ b, 0 ≤ x ∧ x ≤ 255) : ((strOfNums a).toList == (strOfNums b).toList) = decide (a = b) := by
  rw [Bool.eq_iff_iff, beq_iff_eq, decide_eq_true_iff]
  constructor
  · intro h
    rw [strOfNums_toList, strOfNums_toList] at h
    refine str_inj ha hb ?_
    unfold Lib.bytesOf at h
    unfold strOfNums
    rw [h]
  · intro h
    rw [h]
theorem dE_sz : dE.sz = 2 := rfl
theorem drewN_heap (w : World) (n : Nat) : (w.drewN n).heap = w.heap := rfl
theorem Kd.C_drewN {α : Type} {d : Kd α} {w : World} {A : Option Addr} {n : Nat} {xs : List α} (h : d.C w A n xs) (k : Nat) : d.C (w.drewN k) A n xs := Kd.C_below h ⟨rfl, rfl, rfl, Nat.le_refl _, fun _ _ => rfl⟩
set_option maxRecDepth 100000 in
set_option maxHeartbeats 2000000 in
theorem check_calls (w : World) (base : Nat) (ok : Nat → Prop) (g : Nat) (L : List Ent) (p : Int) (A : Option Addr) (c : Nat) (l : List Int) (tag : Int) (h : NotAt w base ok g L) (hr : Kd.C (Kd.int .u8) w A l.length l) (hc : l.length ≤ c) (hx : fine (p, l)) (hL : L.length ≤ 1000000) (ht : 0 ≤ tag ∧ tag ≤ 18446744073709551615) :
    Calls Try.prog 33 #[.pointer (some ⟨g, 0, none⟩), .int .i64 p, .slice A l.length c, .int .u64 tag] w fun e w' => e = .returned (.int .i64 (checkF L p l tag)) ∧ ∃ n, w' = w.drewN n := by
  obtain ⟨B, v, D, h1, _, h5, h6, h7, h8⟩ := h
  obtain ⟨Av, cv, hv, hcv, hCv⟩ := Kd.R_reads h7
  rw [List.length_map] at hv hcv hCv
  subst hv
  have c1 := cell_cells2 h1 1 (Nat.lt_succ_self 1)
  have qs : ∀ n, (convert 22 9 (.slice A l.length c)).run Try.prog (w.drewN n) = .ok (.string (strOfNums l)) (w.drewN n) := fun n => Kd.C_string (src := 22) (dst := 9) (e := 5) (c := c) Try.underlying22 Try.underlying5 Try.underlying9 (Kd.C_drewN hr n)
  have eL : IntKind.u64.wrap (L.length : Int) = L.length := IntWalk.u64_in _ (by omega)
  unfold checkF
  by_cases h1 : tag < 1
  · have g1 : decide (tag < 1) = true := decide_eq_true h1
    rw [if_pos (.inl h1)]
    go_enter Try.func33, Try.ntmps33
    go_wp2
    go_quiet (fail)
    go_wp2
    go_ret
    exact ⟨rfl, _, rfl⟩
  · have g1 : decide (tag < 1) = false := decide_eq_false h1
    by_cases h2 : (L.length : Int) < tag
    · have g2 : decide ((L.length : Int) < tag) = true := decide_eq_true h2
      rw [if_pos (.inr h2)]
      go_enter Try.func33, Try.ntmps33
      go_wp2
      go_quiet (fail)
      go_wp2
      go_ret
      exact ⟨rfl, _, rfl⟩
    · have g2 : decide ((L.length : Int) < tag) = false := decide_eq_false h2
      rw [if_neg (by omega)]
      obtain ⟨i, hi⟩ : ∃ i : Nat, tag = (i : Int) + 1 := ⟨(tag - 1).toNat, by omega⟩
      subst hi
      have hiL : i < L.length := by omega
      obtain ⟨x, hxi⟩ : ∃ x, L[i] = x := ⟨_, rfl⟩
      have hxL : L[((i : Int) + 1 - 1).toNat]? = some x := by rw [show ((i : Int) + 1 - 1).toNat = i by omega, List.getElem?_eq_getElem hiL, hxi]
      rw [hxL]
      obtain ⟨ad, cs, hA, hcl, hK, hcell⟩ := Kd.C_get hCv ((0 : Int), ByteArray.empty) i (by omega) (by omega)
      subst hA
      have hge : (L.map en).getD (i : Int).toNat ((0 : Int), ByteArray.empty) = en x := by
        rw [Int.toNat_natCast, List.getD_eq_getElem?_getD, List.getElem?_map, List.getElem?_eq_getElem hiL, hxi]
        rfl
      rw [hge] at hK
      obtain ⟨_, _, rfl, rfl, rfl⟩ := hK
      have k0 : w.cell? (ad.add (i * 2)) = some (.int .i64 x.1) := by have := hcell 0 _ rfl; simpa [dE_sz, en] using this
      have k1 : w.cell? ⟨(ad.add (i * 2)).block, (ad.add (i * 2)).off + 1, none⟩ = some (.string (strOfNums x.2)) := by rw [← add_field _ _ 1 (by omega)]; exact hcell 1 _ rfl
      have hxf := h8 x (by rw [← hxi]; exact List.getElem_mem hiL)
      have e1 : IntKind.u64.wrap (i : Int) = (i : Int) := IntWalk.u64_in _ (by omega)
      have e1' : IntKind.u64.wrap ((i : Int) + 1 - 1) = (i : Int) := by rw [show (i : Int) + 1 - 1 = i by omega]; exact e1
      have hlt : (i : Int) < L.length := by omega
      by_cases hxe : x = (p, l)
      · subst hxe
        have qn : ∀ W, (Op.equal 58 (.agg #[.int .i64 p, .string (strOfNums l)]) (.agg #[.int .i64 p, .string (strOfNums l)])).run Try.prog W = .ok true W := fun W => by
          rw [eqE' W p p, beq_str hxf.2.1 hxf.2.1]; simp
        rw [if_pos rfl]
        clear h5 h6 h7 h8 hr hcell hCv hge hxL hxi hxf hx
        go_enter Try.func33, Try.ntmps33
        go_wp2
        go_quiet (fail)
        go_wp2
        go_ret
        exact ⟨rfl, _, rfl⟩
      · rw [if_neg (fun e => hxe (Option.some.inj e))]
        obtain ⟨y, m⟩ := x
        by_cases hy : y = p
        · subst hy
          have hm : ¬ m = l := fun e => hxe (by rw [e])
          have q2 : ((strOfNums m).toList == (strOfNums l).toList) = false := by rw [beq_str hxf.2.1 hx.2.1, decide_eq_false hm]
          have q1 : (y == y) = true := by simp
          clear h5 h6 h7 h8 hr hcell hCv hge hxL hxi hxf hx hxe hm
          go_enter Try.func33, Try.ntmps33
          go_wp2
          go_quiet (fail)
          go_wp2
          go_ret
          exact ⟨rfl, _, rfl⟩
        · have q1 : (y == p) = false := by simpa using hy
          clear h5 h6 h7 h8 hr hcell hCv hge hxL hxi hxf hx hxe hy
          go_enter Try.func33, Try.ntmps33
          go_wp2
          go_quiet (fail)
          go_wp2
          go_ret
          exact ⟨rfl, _, rfl⟩
end Go.Proofs.Ytmidmdbhbhjcdaa.Nt
