/-
  Addresses, plain: whether one may be, its bytes, the address of bytes, and what the printed functions of package addr and of its reference come to. Conditions: numbers are of their kinds, bytes are bytes.
-/
import Derived.Test.YtklcggcejaecdaaHx
import Derived.Test.YtklcggcejaecdaaPureUv
import Derived.Test.YtklcggcejaecdaaPureFc
import Derived.OpenShut
import Derived.IntWalk
import Derived.Laws.BitsLemmas
namespace Go.Proofs.Ytklcggcejaecdaa.Wi
open Go.RowKit Go.Proofs.Ytklcggcejaecdaa.H Go.Proofs.Ytklcggcejaecdaa.Uv Go.Proofs.Ytklcggcejaecdaa.Fr Go.Proofs.YtklcggcejaecdaaW.PrintWords Go.Proofs.YtklcggcejaecdaaW.PrintLast Go.Proofs.YtklcggcejaecdaaW.PrintMore
set_option linter.unusedVariables false
set_option linter.unusedSimpArgs false
abbrev AddrP := Int × Int
def mayA (a : AddrP) : Bool := decide (1 ≤ a.1 ∧ 1 ≤ a.2 ∧ a.2 ≤ 65535)
def bytesA (a : AddrP) : List Int := [a.1 / 16777216 % 256, a.1 / 65536 % 256, a.1 / 256 % 256, a.1 % 256, a.2 / 256 % 256, a.2 % 256]
def okA (a : AddrP) : Prop := (0 ≤ a.1 ∧ a.1 ≤ 4294967295) ∧ (-9223372036854775808 ≤ a.2 ∧ a.2 ≤ 9223372036854775807)
theorem mayA_iff (a : AddrP) : mayA a = true ↔ (1 ≤ a.1 ∧ 1 ≤ a.2 ∧ a.2 ≤ 65535) := by unfold mayA; exact decide_eq_true_iff
theorem may_f (a : AddrP) (h : okA a) : addr_May.f a.1 a.2 = some (mayA a) := by
  obtain ⟨h0, h1⟩ := h
  unfold addr_May.f mayA
  by_cases p : a.1 = 0
  · rw [if_pos p, decide_eq_false (by omega)]
  · rw [if_neg p]
    by_cases q : a.2 ≥ 1
    · rw [if_pos q]
      congr 1
      rw [decide_eq_decide]
      omega
    · rw [if_neg q, decide_eq_false (by omega)]
theorem rmay_f (a : AddrP) (h : okA a) : embrasureref03_May.f a.1 a.2 = some (mayA a) := by
  obtain ⟨h0, h1⟩ := h
  unfold embrasureref03_May.f mayA
  by_cases p : a.1 > 0
  · rw [if_pos p]
    by_cases q : a.2 > 0
    · rw [if_pos q]
      congr 1
      rw [decide_eq_decide]
      omega
    · rw [if_neg q, decide_eq_false (by omega)]
  · rw [if_neg p, decide_eq_false (by omega)]
theorem bytes_f (a : AddrP) (h : okA a) : addr_Bytes.f a.1 a.2 = some (if mayA a = true then bytesA a else []) := by
  unfold addr_Bytes.f
  rw [may_f a h, Option.bind_some]
  by_cases p : mayA a = true
  · rw [if_pos p, if_pos p]; rfl
  · rw [if_neg p, if_neg p]
theorem rbytes_f (a : AddrP) (h : okA a) : embrasureref03_Bytes.f a.1 a.2 = some (if mayA a = true then bytesA a else []) := by
  unfold embrasureref03_Bytes.f
  rw [rmay_f a h, Option.bind_some]
  by_cases p : mayA a = true
  · rw [if_pos p, if_pos p]
    obtain ⟨p1, p2, p3⟩ := (mayA_iff a).1 p
    obtain ⟨⟨h0, h1⟩, _⟩ := h
    have e1 : Int.tdiv a.1 16777216 = a.1 / 16777216 := Int.tdiv_eq_ediv_of_nonneg h0
    have e2 : Int.tdiv a.1 65536 = a.1 / 65536 := Int.tdiv_eq_ediv_of_nonneg h0
    have e3 : Int.tdiv a.1 256 = a.1 / 256 := Int.tdiv_eq_ediv_of_nonneg h0
    have e4 : Int.tmod a.1 256 = a.1 % 256 := Int.tmod_eq_emod_of_nonneg h0
    have e5 : Int.tdiv a.2 256 = a.2 / 256 := Int.tdiv_eq_ediv_of_nonneg (by omega)
    have e6 : Int.tmod a.2 256 = a.2 % 256 := Int.tmod_eq_emod_of_nonneg (by omega)
    have e7 : wrap64 (a.2 / 256) = a.2 / 256 := by unfold wrap64; omega
    rw [e1, e2, e3, e4, e5, e6, e7]
    unfold bytesA
    have g1 : a.1 / 16777216 % 4294967296 % 256 = a.1 / 16777216 % 256 := by omega
    have g2 : a.1 / 65536 % 4294967296 % 256 = a.1 / 65536 % 256 := by omega
    have g3 : a.1 / 256 % 4294967296 % 256 = a.1 / 256 % 256 := by omega
    have g4 : a.1 % 256 % 256 = a.1 % 256 := by omega
    have g5 : a.2 % 256 % 256 = a.2 % 256 := by omega
    rw [g1, g2, g3, g4, g5]
  · rw [if_neg p, if_neg p]
theorem bytesA_bytes (a : AddrP) : Bytes (bytesA a) := by
  intro x hx
  unfold bytesA at hx
  simp at hx
  rcases hx with rfl | rfl | rfl | rfl | rfl | rfl <;> omega
theorem bytesA_len (a : AddrP) : (bytesA a).length = 6 := rfl
theorem six {l : List Int} (h : l.length = 6) : ∃ a b c d e f, l = [a, b, c, d, e, f] := by
  match l, h with
  | [a, b, c, d, e, f], _ => exact ⟨a, b, c, d, e, f, rfl⟩
theorem addrV_bytes {a : AddrP} (ho : okA a) (h : mayA a = true) : addrV (bytesA a) = (a.1, a.2, 0) := by
  obtain ⟨p1, p2, p3⟩ := (mayA_iff a).1 h
  obtain ⟨⟨h0, h1⟩, _⟩ := ho
  have e1 : hostV (bytesA a) = a.1 := by show a.1 / 16777216 % 256 * 16777216 + a.1 / 65536 % 256 * 65536 + a.1 / 256 % 256 * 256 + a.1 % 256 = a.1; omega
  have e2 : portV (bytesA a) = a.2 := by show a.2 / 256 % 256 * 256 + a.2 % 256 = a.2; omega
  unfold addrV
  rw [if_pos (bytesA_len a), e1, e2, if_pos ⟨p1, p2⟩]
theorem addrV_ok {l : List Int} {h p : Int} (hb : Bytes l) (he : addrV l = (h, p, 0)) : bytesA ⟨h, p⟩ = l ∧ mayA ⟨h, p⟩ = true ∧ okA ⟨h, p⟩ := by
  unfold addrV at he
  by_cases h6 : l.length = 6
  · rw [if_pos h6] at he
    obtain ⟨a, b, c, d, e, f, rfl⟩ := six h6
    have ha := hb a (by simp)
    have hb1 := hb b (by simp)
    have hc := hb c (by simp)
    have hd := hb d (by simp)
    have he1 := hb e (by simp)
    have hf := hb f (by simp)
    by_cases q : 1 ≤ hostV [a, b, c, d, e, f] ∧ 1 ≤ portV [a, b, c, d, e, f]
    · rw [if_pos q] at he
      simp only [Prod.mk.injEq] at he
      obtain ⟨rfl, rfl, _⟩ := he
      have e1 : hostV [a, b, c, d, e, f] = a * 16777216 + b * 65536 + c * 256 + d := rfl
      have e2 : portV [a, b, c, d, e, f] = e * 256 + f := rfl
      rw [e1, e2] at q ⊢
      refine ⟨?_, (mayA_iff _).2 ⟨q.1, q.2, ?_⟩, ?_⟩
      · unfold bytesA
        dsimp only
        have g1 : (a * 16777216 + b * 65536 + c * 256 + d) / 16777216 % 256 = a := by omega
        have g2 : (a * 16777216 + b * 65536 + c * 256 + d) / 65536 % 256 = b := by omega
        have g3 : (a * 16777216 + b * 65536 + c * 256 + d) / 256 % 256 = c := by omega
        have g4 : (a * 16777216 + b * 65536 + c * 256 + d) % 256 = d := by omega
        have g5 : (e * 256 + f) / 256 % 256 = e := by omega
        have g6 : (e * 256 + f) % 256 = f := by omega
        rw [g1, g2, g3, g4, g5, g6]
      · dsimp only; omega
      · unfold okA; dsimp only; omega
    · rw [if_neg q] at he; simp at he
  · rw [if_neg h6] at he; simp at he
theorem addrV_range {l : List Int} (hb : Bytes l) : okA ⟨(addrV l).1, (addrV l).2.1⟩ := by
  unfold addrV
  by_cases h6 : l.length = 6
  · rw [if_pos h6]
    obtain ⟨a, b, c, d, e, f, rfl⟩ := six h6
    have ha := hb a (by simp)
    have hb1 := hb b (by simp)
    have hc := hb c (by simp)
    have hd := hb d (by simp)
    have he1 := hb e (by simp)
    have hf := hb f (by simp)
    by_cases q : 1 ≤ hostV [a, b, c, d, e, f] ∧ 1 ≤ portV [a, b, c, d, e, f]
    · rw [if_pos q]
      have e1 : hostV [a, b, c, d, e, f] = a * 16777216 + b * 65536 + c * 256 + d := rfl
      have e2 : portV [a, b, c, d, e, f] = e * 256 + f := rfl
      rw [e1, e2]
      unfold okA
      dsimp only
      omega
    · rw [if_neg q]; unfold okA; dsimp only; omega
  · rw [if_neg h6]; unfold okA; dsimp only; omega
theorem or32 (x y : Int) (h0 : 0 ≤ x) (h1 : x ≤ 16777215) (y0 : 0 ≤ y) (y1 : y ≤ 255) : Go.bits .or .u32 ((x * 256) % 4294967296) (y % 4294967296) = x * 256 + y := by
  rw [show (x * 256) % 4294967296 = x * 256 by omega, show y % 4294967296 = y by omega]
  exact bits_join .u32 32 (by decide) (fun n h0 h1 => by rw [IntKind.wrap_u32]; omega) 8 (x * 256) y (by omega) (by omega) (by omega) y0 (by omega) (by omega)
theorem or64 (x y : Int) (h0 : 0 ≤ x) (h1 : x ≤ 16777215) (y0 : 0 ≤ y) (y1 : y ≤ 255) : Go.bits .or .i64 (wrap64 (x * 256)) (wrap64 y) = x * 256 + y := by
  rw [show wrap64 (x * 256) = x * 256 by unfold wrap64; omega, show wrap64 y = y by unfold wrap64; omega]
  exact bits_join .i64 63 (by decide) (fun n h0 h1 => by rw [IntKind.wrap_i64]; omega) 8 (x * 256) y (by omega) (by omega) (by omega) y0 (by omega) (by omega)
theorem fb_lo (k : Nat) (l : List Int) (i h p : Int) (hl : l.length = 6) (i0 : 0 ≤ i) (i1 : i < 4) (h0 : 0 ≤ h) (h1 : h ≤ 16777215) (hb : 0 ≤ rd l i ∧ rd l i ≤ 255) : addr_FromBytes.l0 (k + 1) l 6 i h p = addr_FromBytes.l0 k l 6 (i + 1) (h * 256 + rd l i) p := by
  simp only [addr_FromBytes.l0]
  rw [if_pos (by omega), if_pos i0, if_pos (by omega), if_pos i1, or32 h (rd l i) h0 h1 hb.1 hb.2, show wrap64 (i + 1) = i + 1 by unfold wrap64; omega]
theorem fb_hi (k : Nat) (l : List Int) (i h p : Int) (hl : l.length = 6) (i0 : 4 ≤ i) (i1 : i < 6) (h0 : 0 ≤ p) (h1 : p ≤ 16777215) (hb : 0 ≤ rd l i ∧ rd l i ≤ 255) : addr_FromBytes.l0 (k + 1) l 6 i h p = addr_FromBytes.l0 k l 6 (i + 1) h (p * 256 + rd l i) := by
  simp only [addr_FromBytes.l0]
  rw [if_pos i1, if_pos (by omega), if_pos (by omega), if_neg (by omega), or64 p (rd l i) h0 h1 hb.1 hb.2, show wrap64 (i + 1) = i + 1 by unfold wrap64; omega]
theorem fb_yes (l : List Int) (hb : Bytes l) : Ev (fun k => addr_FromBytes.f k l) (addrV l) := by
  refine ⟨7, fun k hk => ?_⟩
  obtain ⟨m, rfl⟩ : ∃ m, k = m + 7 := ⟨k - 7, by omega⟩
  show addr_FromBytes.f (m + 7) l = some (addrV l)
  unfold addr_FromBytes.f addrV
  by_cases h6 : l.length = 6
  · rw [if_pos (by omega), if_pos h6]
    obtain ⟨a, b, c, d, e, f, rfl⟩ := six h6
    have ha := hb a (by simp)
    have hb1 := hb b (by simp)
    have hc := hb c (by simp)
    have hd := hb d (by simp)
    have he1 := hb e (by simp)
    have hf := hb f (by simp)
    have e0 : rd [a, b, c, d, e, f] 0 = a := rfl
    have e1 : rd [a, b, c, d, e, f] (0 + 1) = b := rfl
    have e2 : rd [a, b, c, d, e, f] (0 + 1 + 1) = c := rfl
    have e3 : rd [a, b, c, d, e, f] (0 + 1 + 1 + 1) = d := rfl
    have e4 : rd [a, b, c, d, e, f] (0 + 1 + 1 + 1 + 1) = e := rfl
    have e5 : rd [a, b, c, d, e, f] (0 + 1 + 1 + 1 + 1 + 1) = f := rfl
    have hL : (([a, b, c, d, e, f] : List Int).length : Int) = 6 := rfl
    have s1 : (0 : Int) * 256 + a = a := by omega
    have s2 : (0 : Int) * 256 + e = e := by omega
    rw [hL, fb_lo _ _ 0 0 0 rfl (by omega) (by omega) (by omega) (by omega) (by rw [e0]; exact ha), e0, s1,
      fb_lo _ _ (0 + 1) a 0 rfl (by omega) (by omega) (by omega) (by omega) (by rw [e1]; exact hb1), e1,
      fb_lo _ _ (0 + 1 + 1) (a * 256 + b) 0 rfl (by omega) (by omega) (by omega) (by omega) (by rw [e2]; exact hc), e2,
      fb_lo _ _ (0 + 1 + 1 + 1) ((a * 256 + b) * 256 + c) 0 rfl (by omega) (by omega) (by omega) (by omega) (by rw [e3]; exact hd), e3,
      fb_hi _ _ (0 + 1 + 1 + 1 + 1) (((a * 256 + b) * 256 + c) * 256 + d) 0 rfl (by omega) (by omega) (by omega) (by omega) (by rw [e4]; exact he1), e4, s2,
      fb_hi _ _ (0 + 1 + 1 + 1 + 1 + 1) (((a * 256 + b) * 256 + c) * 256 + d) e rfl (by omega) (by omega) (by omega) (by omega) (by rw [e5]; exact hf), e5]
    simp only [addr_FromBytes.l0]
    rw [if_neg (by omega)]
    have x1 : hostV [a, b, c, d, e, f] = ((a * 256 + b) * 256 + c) * 256 + d := by show a * 16777216 + b * 65536 + c * 256 + d = _; omega
    have x2 : portV [a, b, c, d, e, f] = e * 256 + f := rfl
    rw [may_f ⟨((a * 256 + b) * 256 + c) * 256 + d, e * 256 + f⟩ (by unfold okA; dsimp only; omega), Option.bind_some, x1, x2]
    by_cases q : 1 ≤ ((a * 256 + b) * 256 + c) * 256 + d ∧ 1 ≤ e * 256 + f
    · rw [if_pos ((mayA_iff _).2 ⟨q.1, q.2, by dsimp only; omega⟩), if_pos q]
    · rw [if_neg (fun h => q (by have := (mayA_iff _).1 h; exact ⟨this.1, this.2.1⟩)), if_neg q]
  · rw [if_neg (by omega), if_neg h6]
/-! ### contracts -/
theorem amay_calls (w : World) (a : AddrP) (h : okA a) : Calls Try.prog 29 #[.agg #[.int .u32 a.1, .int .i64 a.2]] w fun e w' => e = .returned (.bool (mayA a)) ∧ Below w.heap.size w w' := addr_May.calls _ _ _ w (may_f a h)
theorem afb_calls (w : World) (A : Option Addr) (n c : Nat) (l : List Int) (hn : n = l.length) (hr : Kd.C (Kd.int .u8) w A n l) (hc : n ≤ c) (hb : Bytes l) (h p e : Int) (he : addrV l = (h, p, e)) :
    Calls Try.prog 46 #[.slice A n c] w fun r w' => r = .returned (.tuple #[.agg #[.int .u32 h, .int .i64 p], .int .i64 e]) ∧ Below w.heap.size w w' := by
  subst hn
  obtain ⟨k, hk⟩ := (fb_yes l hb).rounds
  rw [he] at hk
  exact addr_FromBytes.calls k A c l _ _ _ w hr hc hk
theorem uget_n (w : World) (A : Option Addr) (n c : Nat) (l : List Int) (hn : n = l.length) (hr : (Kd.int .u8).C w A n l) (hc : n ≤ c) (hb : Bytes l) (v k e : Int) (h : getI l = (v, k, e)) : Calls Try.prog 44 #[.slice A n c] w fun r w' => r = .returned (.tuple #[.int .u64 v, .int .i64 k, .int .i64 e]) ∧ Below w.heap.size w w' := by
  subst hn
  obtain ⟨j, hj⟩ := (get_yes l hb).rounds
  rw [h] at hj
  exact uvar_Get.calls j A c l _ _ _ w hr hc hj
theorem fget_n (w : World) (A : Option Addr) (n c : Nat) (l : List Int) (hn : n = l.length) (hr : (Kd.int .u8).C w A n l) (hc : n ≤ c) (hb : Bytes l) (hl : n ≤ 1000000000) (t : List Int) (k e : Int) (h : getF l = (t, k, e)) : Calls Try.prog 47 #[.slice A n c] w fun r w' => ∃ v0, r = .returned (.tuple #[v0, .int .i64 k, .int .i64 e]) ∧ (Kd.int .u8).R 5 w' w.heap.size (fun _ => True) v0 t ∧ Below w.heap.size w w' := by
  subst hn
  obtain ⟨j, hj⟩ := (fget_yes l hb hl).rounds
  rw [h] at hj
  exact frame_Get.calls j A c l _ _ _ w hr hc hj
theorem ulen_calls (w : World) (v : Int) (h0 : 0 ≤ v) (h1 : v ≤ 18446744073709551615) : Calls Try.prog 26 #[.int .u64 v] w fun r w' => (∃ n : Int, r = .returned (.int .i64 n) ∧ (n == 0) = decide (9223372036854775807 < v)) ∧ Below w.heap.size w w' := by
  by_cases h : 9223372036854775807 < v
  · refine (uvar_Len.calls 0 v 0 w ?_).mono ?_
    · unfold uvar_Len.f; rw [if_pos (by omega)]
    · rintro e w' ⟨rfl, hb⟩
      exact ⟨⟨0, rfl, by rw [decide_eq_true h]; rfl⟩, hb⟩
  · obtain ⟨k, hk⟩ := (len_yes v h0 (by omega)).rounds
    refine (uvar_Len.calls k v _ w hk).mono ?_
    rintro e w' ⟨rfl, hb⟩
    obtain ⟨n, hn, _⟩ := lenI_bd v h0 (by omega)
    exact ⟨⟨_, rfl, by rw [decide_eq_false h, hn]; simp; omega⟩, hb⟩
end Go.Proofs.Ytklcggcejaecdaa.Wi
