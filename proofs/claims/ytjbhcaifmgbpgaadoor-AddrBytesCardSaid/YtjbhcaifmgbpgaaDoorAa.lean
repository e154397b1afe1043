/-
  Rows of bytes cut at a byte, and joined; decimal digits; plain, of no program.
-/
import Derived.Lib.SplitLaws
import Derived.Lib.ItoaMem
import Derived.Lib.AtoiAll
import Derived.Lib.IndexBytes
namespace Go.Proofs.YtjbhcaifmgbpgaaDoor.Ad
open Go
set_option linter.unusedVariables false
set_option linter.unusedSimpArgs false
abbrev Str := List UInt8
def mk (l : Str) : ByteArray := ⟨l.toArray⟩
theorem mk_data (l : Str) : (mk l).data.toList = l := rfl
theorem mk_size (l : Str) : (mk l).size = l.length := by simp [mk, ByteArray.size]
theorem mk_of (s : ByteArray) : mk s.data.toList = s := rfl
theorem mk_inj {a b : Str} (h : mk a = mk b) : a = b := by have := congrArg (fun s : ByteArray => s.data.toList) h; exact this
/-! ### cut and joined -/
def split1 (c : UInt8) : Str → List Str
  | [] => [[]]
  | b :: l => if b = c then [] :: split1 c l else match split1 c l with | [] => [[b]] | p :: r => (b :: p) :: r
theorem split1_yes (c : UInt8) (l : Str) : split1 c (c :: l) = [] :: split1 c l := by simp only [split1, if_true]
theorem split1_no {c b : UInt8} (h : b ≠ c) (l : Str) : split1 c (b :: l) = match split1 c l with | [] => [[b]] | p :: r => (b :: p) :: r := by simp only [split1, if_neg h]
theorem split1_ne (c : UInt8) : ∀ l : Str, split1 c l ≠ []
  | [] => by simp [split1]
  | b :: l => by
    unfold split1
    split
    · simp
    · split <;> simp
def join1 (c : UInt8) : List Str → Str
  | [] => []
  | [p] => p
  | p :: q :: r => p ++ c :: join1 c (q :: r)
theorem join1_cons (c : UInt8) (p : Str) {r : List Str} (h : r ≠ []) : join1 c (p :: r) = p ++ c :: join1 c r := by
  cases r with
  | nil => exact absurd rfl h
  | cons q r => rfl
theorem join_split (c : UInt8) : ∀ l : Str, join1 c (split1 c l) = l
  | [] => rfl
  | b :: l => by
    have ih := join_split c l
    unfold split1
    split
    · rename_i h
      rw [join1_cons c _ (split1_ne c l), ih, h]
      rfl
    · split
      · rename_i h; exact absurd h (split1_ne c l)
      · rename_i p r h
        rw [h] at ih
        cases r with
        | nil => show b :: p = b :: l; rw [show p = l from ih]
        | cons q r =>
          show (b :: p) ++ c :: join1 c (q :: r) = b :: l
          have ih : p ++ c :: join1 c (q :: r) = l := ih
          rw [List.cons_append, ih]
theorem split_free (c : UInt8) : ∀ (l : Str) (p : Str), p ∈ split1 c l → c ∉ p
  | [], p, h => by simp [split1] at h; simp [h]
  | b :: l, p, h => by
    have ih := split_free c l
    unfold split1 at h
    split at h
    · rcases List.mem_cons.1 h with rfl | h
      · simp
      · exact ih p h
    · rename_i hb
      split at h
      · rename_i h2; exact absurd h2 (split1_ne c l)
      · rename_i q r h2
        rcases List.mem_cons.1 h with rfl | h
        · intro hc
          rcases List.mem_cons.1 hc with hc | hc
          · exact hb hc.symm
          · exact ih q (by rw [h2]; simp) hc
        · exact ih p (by rw [h2]; simp [h])
theorem split_none {c : UInt8} : ∀ {l : Str}, c ∉ l → split1 c l = [l]
  | [], _ => rfl
  | b :: l, h => by
    have h1 : b ≠ c := fun e => h (by rw [e]; simp)
    have h2 : c ∉ l := fun e => h (by simp [e])
    rw [split1_no h1, split_none h2]
theorem split_app {c : UInt8} : ∀ {p : Str} (l : Str), c ∉ p → split1 c (p ++ c :: l) = p :: split1 c l
  | [], l, _ => split1_yes c l
  | b :: p, l, h => by
    have h1 : b ≠ c := fun e => h (by rw [e]; simp)
    have h2 : c ∉ p := fun e => h (by simp [e])
    show split1 c (b :: (p ++ c :: l)) = _
    rw [split1_no h1, split_app l h2]
theorem split_join {c : UInt8} : ∀ {ps : List Str}, ps ≠ [] → (∀ p ∈ ps, c ∉ p) → split1 c (join1 c ps) = ps
  | [], h, _ => absurd rfl h
  | [p], _, h => split_none (h p (by simp))
  | p :: q :: r, _, h => by
    show split1 c (p ++ c :: join1 c (q :: r)) = _
    rw [split_app _ (h p (by simp)), split_join (by simp) (fun x hx => h x (by simp [List.mem_cons.1 hx]))]
/-- Cut at the first place where the byte stands. -/
theorem index_split (c : UInt8) : ∀ l : Str, (Lib.indexByte l c = -1 ∧ split1 c l = [l]) ∨ ∃ i : Nat, Lib.indexByte l c = i ∧ i < l.length ∧ split1 c l = l.take i :: split1 c (l.drop (i + 1))
  | [] => .inl ⟨rfl, rfl⟩
  | b :: l => by
    unfold Lib.indexByte
    by_cases hb : b = c
    · subst hb
      exact .inr ⟨0, by simp, by simp, by rw [split1_yes]; rfl⟩
    · have hb' : (b == c) = false := beq_eq_false_iff_ne.2 hb
      rw [hb']
      rcases index_split c l with ⟨h1, h2⟩ | ⟨i, h1, h2, h3⟩
      · refine .inl ⟨by rw [h1]; rfl, ?_⟩
        rw [split1_no hb, h2]
      · refine .inr ⟨i + 1, ?_, by simpa using h2, ?_⟩
        · rw [h1, if_neg (by simp), if_neg (by simp)]
          rfl
        · rw [split1_no hb, h3]
          rfl
theorem splitK_one (c : UInt8) : ∀ (n : Nat) (l : Str), l.length ≤ n → Lib.splitK [c] 0 (Lib.count l [c]) l = split1 c l ∧ Lib.count l [c] + 1 = (split1 c l).length := by
  intro n
  induction n with
  | zero =>
    intro l hl
    have : l = [] := List.length_eq_zero_iff.1 (by omega)
    subst this
    exact ⟨by rw [Lib.count_miss (by rfl)]; rfl, by rw [Lib.count_miss (by rfl)]; rfl⟩
  | succ n ih =>
    intro l hl
    rcases index_split c l with ⟨h1, h2⟩ | ⟨i, h1, h2, h3⟩
    · have hi : Lib.index l [c] = -1 := by rw [Lib.index_one, h1]
      rw [Lib.count_miss hi, h2]
      exact ⟨rfl, rfl⟩
    · have hi : Lib.index l [c] = i := by rw [Lib.index_one, h1]
      obtain ⟨e1, e2⟩ := ih (l.drop (i + 1)) (by rw [List.length_drop]; omega)
      rw [Lib.count_hit (by simp) hi]
      have hlen : [c].length = 1 := rfl
      rw [hlen, Nat.add_comm 1]
      refine ⟨?_, ?_⟩
      · unfold Lib.splitK
        rw [hi, if_neg (by simp)]
        show l.take (i + 0) :: Lib.splitK [c] 0 (Lib.count (l.drop (i + 1)) [c]) (l.drop (i + 1)) = _
        rw [e1, h3, Nat.add_zero]
      · show Lib.count (l.drop (i + 1)) [c] + 1 + 1 = _
        rw [h3, List.length_cons, e2]
theorem splitB_one (s : ByteArray) (c : UInt8) : Lib.splitB ⟨#[c]⟩ 0 (Lib.countB s ⟨#[c]⟩) s = (split1 c s.data.toList).map mk ∧ Lib.countB s ⟨#[c]⟩ + 1 = (split1 c s.data.toList).length := by
  obtain ⟨h1, h2⟩ := splitK_one c _ s.data.toList (Nat.le_refl _)
  refine ⟨?_, h2⟩
  have h3 := Lib.splitB_data ⟨#[c]⟩ 0 (Lib.countB s ⟨#[c]⟩) s
  have h4 : (Lib.splitB ⟨#[c]⟩ 0 (Lib.countB s ⟨#[c]⟩) s).map (·.data.toList) = split1 c s.data.toList := h3.trans h1
  rw [← h4, List.map_map]
  have : (mk ∘ fun x : ByteArray => x.data.toList) = id := by funext x; rfl
  rw [this, List.map_id]
/-! ### digits -/
def isDig (b : UInt8) : Prop := 48 ≤ b.toNat ∧ b.toNat ≤ 57
instance (b : UInt8) : Decidable (isDig b) := by unfold isDig; infer_instance
def dec (u : Nat) : Str := Lib.decDigits u
theorem dec_small {u : Nat} (h : u < 10) : dec u = [UInt8.ofNat (48 + u)] := by unfold dec; rw [Lib.decDigits, dif_pos h]
theorem dec_big {u : Nat} (h : ¬ u < 10) : dec u = dec (u / 10) ++ [UInt8.ofNat (48 + u % 10)] := by unfold dec; conv => lhs; rw [Lib.decDigits, dif_neg h]
theorem itoa_dec {n : Int} (h : 0 ≤ n) : Lib.itoa n = dec n.toNat := by unfold Lib.itoa dec; rw [if_neg (by omega)]
theorem dig_of {k : Nat} (h : k < 10) : (UInt8.ofNat (48 + k)).toNat = 48 + k := by
  rw [UInt8.toNat_ofNat']; omega
theorem dec_digits : ∀ (u : Nat), ∀ b ∈ dec u, isDig b := by
  intro u
  induction u using Nat.strongRecOn with
  | _ u ih =>
    intro b hb
    by_cases h : u < 10
    · rw [dec_small h, List.mem_singleton] at hb
      rw [hb]; unfold isDig; rw [dig_of h]; omega
    · rw [dec_big h, List.mem_append, List.mem_singleton] at hb
      rcases hb with hb | hb
      · exact ih (u / 10) (by omega) b hb
      · rw [hb]; unfold isDig; rw [dig_of (by omega)]; omega
theorem dec_ne (u : Nat) : dec u ≠ [] := by
  by_cases h : u < 10
  · rw [dec_small h]; simp
  · rw [dec_big h]; simp
/-- The number that digits spell. -/
def val (l : Str) : Nat := l.foldl (fun a b => a * 10 + (b.toNat - 48)) 0
theorem val_snoc (l : Str) (b : UInt8) : val (l ++ [b]) = val l * 10 + (b.toNat - 48) := by unfold val; rw [List.foldl_append]; rfl
theorem val_dec (u : Nat) : val (dec u) = u := by
  induction u using Nat.strongRecOn with
  | _ u ih =>
    by_cases h : u < 10
    · rw [dec_small h]
      show 0 * 10 + ((UInt8.ofNat (48 + u)).toNat - 48) = u
      rw [dig_of h]; omega
    · rw [dec_big h, val_snoc, ih (u / 10) (by omega), dig_of (by omega)]; omega
theorem dec_inj {a b : Nat} (h : dec a = dec b) : a = b := by have := congrArg val h; rwa [val_dec, val_dec] at this
/-- The first digit of a number that is not 0 is none. -/
theorem dec_head {u : Nat} (h : 0 < u) : ∀ b r, dec u = b :: r → b.toNat ≠ 48 := by
  induction u using Nat.strongRecOn with
  | _ u ih =>
    intro b r e
    by_cases h1 : u < 10
    · rw [dec_small h1] at e
      injection e with e1 e2
      rw [← e1, dig_of h1]; omega
    · rw [dec_big h1] at e
      cases hd : dec (u / 10) with
      | nil => exact absurd hd (dec_ne _)
      | cons x y =>
        rw [hd] at e
        injection e with e1 e2
        rw [← e1]
        exact ih (u / 10) (by omega) (by omega) x y hd
/-- A row of digits without a 0 ahead is its number's. -/
theorem dec_val : ∀ (n : Nat) (l : Str), l.length = n → l ≠ [] → (∀ b ∈ l, isDig b) → (∀ b r, l = b :: r → b.toNat = 48 → r = []) → dec (val l) = l := by
  intro n
  induction n with
  | zero => intro l hl hne; exact absurd (List.length_eq_zero_iff.1 hl) hne
  | succ n ih =>
    intro l hl hne hd h0
    obtain ⟨p, b, rfl⟩ : ∃ p b, l = p ++ [b] := ⟨l.dropLast, l.getLast hne, (List.dropLast_concat_getLast hne).symm⟩
    have hb := hd b (by simp)
    unfold isDig at hb
    rw [val_snoc]
    by_cases hp : p = []
    · subst hp
      show dec (0 * 10 + _) = [b]
      rw [Nat.zero_mul, Nat.zero_add, dec_small (by omega)]
      congr 1
      apply UInt8.toNat_inj.1
      rw [dig_of (by omega)]; omega
    · have hpd : ∀ x ∈ p, isDig x := fun x hx => hd x (by simp [hx])
      have hp0 : ∀ x r, p = x :: r → x.toNat ≠ 48 := fun x r e hx => by
        have := h0 x (r ++ [b]) (by rw [e]; rfl) hx
        simp at this
      have hv := ih p (by simpa using hl) hp hpd (fun x r e hx => absurd hx (hp0 x r e))
      have hpos : 0 < val p := by
        rcases Nat.eq_zero_or_pos (val p) with e | e
        · rw [e] at hv
          cases p with
          | nil => exact absurd rfl hp
          | cons x r =>
            have hx := hp0 x r rfl
            rw [dec_small (by omega)] at hv
            injection hv with h1 h2
            exact absurd (by rw [← h1]; rfl) hx
        · exact e
      rw [dec_big (by omega), show (val p * 10 + (b.toNat - 48)) / 10 = val p by omega, hv, show (val p * 10 + (b.toNat - 48)) % 10 = b.toNat - 48 by omega]
      congr 2
      apply UInt8.toNat_inj.1
      rw [dig_of (by omega)]; omega
end Go.Proofs.YtjbhcaifmgbpgaaDoor.Ad
