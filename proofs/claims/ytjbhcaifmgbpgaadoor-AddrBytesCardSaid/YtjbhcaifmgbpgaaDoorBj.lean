/-
  addr: bytes that are turned, plain. Conditions: as the theorems state them.
-/
import Derived.Test.YtjbhcaifmgbpgaaDoorBg
import Derived.Test.YtjbhcaifmgbpgaaDoorBi
import Derived.Laws.BitsAllLaws
namespace Go.Proofs.YtjbhcaifmgbpgaaDoor.Ad
open Go Go.RowKit Go.Shelf
set_option linter.unusedVariables false
set_option linter.unusedSimpArgs false
theorem fbV_bytes {h p : Int} (hh : U32 h) (hm : mayA h p = true) : fbV (bytesA h p) = (h, p, 0) := by
  have hmm := (mayA_iff h p).1 hm
  unfold U32 at hh
  have e1 : hI (bytesA h p) 6 = (((0 * 256 + h / 16777216) * 256 + h / 65536 % 256) * 256 + h / 256 % 256) * 256 + h % 256 := rfl
  have e2 : pI (bytesA h p) 6 = (0 * 256 + p / 256) * 256 + p % 256 := rfl
  have q1 : hI (bytesA h p) 6 = h := by rw [e1]; omega
  have q2 : pI (bytesA h p) 6 = p := by rw [e2]; omega
  unfold fbV
  rw [q1, q2, if_pos ⟨rfl, hm⟩]
theorem fbV_cases (l : List Int) : (∃ h p, fbV l = (h, p, 0) ∧ l.length = 6 ∧ h = hI l 6 ∧ p = pI l 6 ∧ mayA h p = true) ∨ fbV l = (0, 0, 3) := by
  unfold fbV
  by_cases c : l.length = 6 ∧ mayA (hI l 6) (pI l 6) = true
  · rw [if_pos c]; exact .inl ⟨_, _, rfl, c.1, rfl, rfl, c.2⟩
  · rw [if_neg c]; exact .inr rfl
theorem fbV_ok {l : List Int} {h p : Int} (hb : InB l) (he : fbV l = (h, p, 0)) : bytesA h p = l ∧ mayA h p = true ∧ U32 h := by
  rcases fbV_cases l with ⟨h', p', e, hl, eh, ep, hm⟩ | e
  · rw [e] at he
    injection he with he1 he2
    injection he2 with he2 _
    subst he1 he2
    obtain ⟨a, b, c, d, x, y, rfl⟩ : ∃ a b c d e f, l = [a, b, c, d, e, f] := by
      match l, hl with
      | [a, b, c, d, e, f], _ => exact ⟨a, b, c, d, e, f, rfl⟩
    have ha := hb a (by simp)
    have hb1 := hb b (by simp)
    have hc := hb c (by simp)
    have hd := hb d (by simp)
    have hx := hb x (by simp)
    have hy := hb y (by simp)
    have e1 : hI [a, b, c, d, x, y] 6 = (((0 * 256 + a) * 256 + b) * 256 + c) * 256 + d := rfl
    have e2 : pI [a, b, c, d, x, y] 6 = (0 * 256 + x) * 256 + y := rfl
    rw [e1] at eh
    rw [e2] at ep
    refine ⟨?_, hm, by unfold U32; omega⟩
    unfold bytesA
    rw [show h' / 16777216 = a by omega, show h' / 65536 % 256 = b by omega, show h' / 256 % 256 = c by omega, show h' % 256 = d by omega, show p' / 256 = x by omega, show p' % 256 = y by omega]
  · rw [e] at he
    injection he with _ he2
    injection he2 with _ he3
    cases he3
theorem xor_in {a b : Int} (ha : 0 ≤ a ∧ a ≤ 255) (hb : 0 ≤ b ∧ b ≤ 255) : (0 ≤ bits .xor .u8 a b ∧ bits .xor .u8 a b ≤ 255) ∧ (bits .xor .u8 a b = a ↔ b = 0) := by
  rw [u8_xor a b ha.1 (by omega) hb.1 (by omega)]
  have hlt : a.toNat ^^^ b.toNat < 2 ^ 8 := Nat.xor_lt_two_pow (by omega) (by omega)
  refine ⟨by omega, ?_⟩
  constructor
  · intro e
    have e2 : a.toNat ^^^ b.toNat = a.toNat := by omega
    have e3 : a.toNat ^^^ (a.toNat ^^^ b.toNat) = b.toNat := by rw [← Nat.xor_assoc, Nat.xor_self, Nat.zero_xor]
    rw [e2, Nat.xor_self] at e3
    omega
  · intro e
    subst e
    show ((a.toNat ^^^ 0 : Nat) : Int) = a
    rw [Nat.xor_zero]
    omega
theorem turned_plain {h p : Int} (hh : U32 h) (hm : mayA h p = true) {n : Nat} (hn : n < 6) {t z : Int} (ht : 0 ≤ t ∧ t ≤ 255) (hz : bits .xor .u8 ((bytesA h p).getD n 0) t = z) :
    InB ((bytesA h p).set n z) ∧ ((∃ H P, fbV ((bytesA h p).set n z) = (H, P, 0) ∧ eqA H P h p = (t == 0)) ∨ (fbV ((bytesA h p).set n z) = (0, 0, 3) ∧ (t == 0) = false)) := by
  have hb := bytesA_in hh hm
  have hx := xor_in (hb.at n) ht
  rw [hz] at hx
  have hin : InB ((bytesA h p).set n z) := by
    intro x hx2
    rcases List.mem_or_eq_of_mem_set hx2 with h1 | h1
    · exact hb x h1
    · rw [h1]; exact hx.1
  have hget : (bytesA h p).getD n 0 = z ↔ (bytesA h p).set n z = bytesA h p := by
    constructor
    · intro e
      rw [← e]
      apply List.ext_getElem?
      intro i
      rw [List.getElem?_set]
      by_cases hi : n = i
      · subst hi
        have hl : n < (bytesA h p).length := hn
        rw [if_pos rfl, if_pos hl, List.getD_eq_getElem?_getD, List.getElem?_eq_getElem hl]
        rfl
      · rw [if_neg hi]
    · intro e
      rw [← e, List.getD_eq_getElem?_getD, List.getElem?_set, if_pos rfl, if_pos (show n < (bytesA h p).length from hn)]
      rfl
  refine ⟨hin, ?_⟩
  rcases fbV_cases ((bytesA h p).set n z) with ⟨H, P, e, _, _, _, hm2⟩ | e
  · refine .inl ⟨H, P, e, ?_⟩
    obtain ⟨k1, k2, k3⟩ := fbV_ok hin e
    rw [eqA_iff, Bool.eq_iff_iff, decide_eq_true_iff, beq_iff_eq]
    constructor
    · intro q
      injection q with q1 q2
      subst q1 q2
      exact hx.2.1 (hget.2 k1.symm).symm
    · intro q
      have := hget.1 (hx.2.2 q).symm
      rw [this] at k1
      obtain ⟨r1, r2⟩ := bytesA_inj k3 hh k2 hm k1
      rw [r1, r2]
  · refine .inr ⟨e, ?_⟩
    rw [beq_eq_false_iff_ne]
    intro q
    have := hget.1 (hx.2.2 q).symm
    rw [this, fbV_bytes hh hm] at e
    injection e with _ e2
    injection e2 with _ e3
    cases e3
theorem same_plain {h1 p1 h2 p2 : Int} (u1 : U32 h1) (u2 : U32 h2) (m1 : mayA h1 p1 = true) (m2 : mayA h2 p2 = true) : decide (bytesA h1 p1 = bytesA h2 p2) = eqA h1 p1 h2 p2 := by
  rw [eqA_iff, decide_eq_decide]
  constructor
  · intro e
    obtain ⟨r1, r2⟩ := bytesA_inj u1 u2 m1 m2 e
    rw [r1, r2]
  · intro e
    injection e with e1 e2
    rw [e1, e2]
end Go.Proofs.YtjbhcaifmgbpgaaDoor.Ad
