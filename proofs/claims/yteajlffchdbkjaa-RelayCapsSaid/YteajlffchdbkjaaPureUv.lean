/-
  What the printed functions of package uvar, and of its reference, come to: numbers in few bytes, for every number and all bytes. No Go in it.
-/
import Derived.Test.YteajlffchdbkjaaHx1
import Derived.OpenShut
import Derived.Laws.BitsAllLaws
import Derived.Laws.Bits128
import Derived.Laws.Bits64b
namespace Go.Proofs.Yteajlffchdbkjaa.Uv
open Go.RowKit Go.Proofs.Yteajlffchdbkjaa.H Go.Proofs.YteajlffchdbkjaaW.PrintWords Go.Proofs.YteajlffchdbkjaaW.PrintLast Go.Proofs.YteajlffchdbkjaaW.PrintMore

/-! ### 'from some number of rounds on', through a test that no round turns -/
theorem Ev_if {α : Type} {c : Prop} [Decidable c] {f g : Nat → Option α} {r : α} (h : c) (k : Ev f r) : Ev (fun n => if c then f n else g n) r := by simpa [h] using k
theorem Ev_else {α : Type} {c : Prop} [Decidable c] {f g : Nat → Option α} {r : α} (h : ¬ c) (k : Ev g r) : Ev (fun n => if c then f n else g n) r := by simpa [h] using k

/-! ### plain: numbers in few bytes -/
def pw : Nat → Int
  | 0 => 1
  | n + 1 => 128 * pw n

theorem pw_two : ∀ i : Nat, (2 : Int) ^ (7 * i) = pw i
  | 0 => rfl
  | i + 1 => by
    rw [show 7 * (i + 1) = 7 * i + 7 by omega, Int.pow_add, pw_two i, pw]
    rw [show (2 : Int) ^ 7 = 128 by decide, Int.mul_comm]

theorem pw_pos : ∀ i, 1 ≤ pw i
  | 0 => by decide
  | i + 1 => by have := pw_pos i; rw [pw]; omega

theorem pw_nat (i : Nat) : pw i = ((2 ^ (7 * i) : Nat) : Int) := by rw [← pw_two]; simp

theorem pws : pw 0 = 1 ∧ pw 1 = 128 ∧ pw 2 = 16384 ∧ pw 3 = 2097152 ∧ pw 4 = 268435456 ∧ pw 5 = 34359738368 ∧ pw 6 = 4398046511104 ∧ pw 7 = 562949953421312 ∧ pw 8 = 72057594037927936 ∧ pw 9 = 9223372036854775808 := by decide

def lenI (v : Int) : Int := if v < 128 then 1 else if v < 16384 then 2 else if v < 2097152 then 3 else if v < 268435456 then 4 else if v < 34359738368 then 5 else if v < 4398046511104 then 6 else if v < 562949953421312 then 7 else if v < 72057594037927936 then 8 else 9

def enc : Nat → Int → List Int
  | 0, v => [v]
  | n + 1, v => if v < 128 then [v] else (128 + v % 128) :: enc n (v / 128)

/-- The bytes of a number; none of what is no number. -/
def putI (v : Int) : List Int := if v ≤ 9223372036854775807 then enc 8 v else []

theorem enc_ne (n : Nat) (v : Int) : enc n v ≠ [] := by cases n <;> simp [enc]; split <;> simp

/-- More fuel, the same bytes. -/
theorem enc_fuel : ∀ (n m : Nat) (v : Int), 0 ≤ v → v < pw (n + 1) → n ≤ m → enc m v = enc n v
  | 0, 0, v, _, _, _ => rfl
  | 0, m + 1, v, h0, h, _ => by
    have : v < 128 := by rw [show pw (0 + 1) = 128 from rfl] at h; exact h
    simp [enc, this]
  | n + 1, 0, v, _, _, h => by omega
  | n + 1, m + 1, v, h0, h, hm => by
    simp only [enc]
    by_cases hv : v < 128
    · simp [hv]
    · rw [if_neg hv, if_neg hv, enc_fuel n m (v / 128) (by omega) (by have e : pw (n + 1 + 1) = 128 * pw (n + 1) := rfl; rw [e] at h; omega) (by omega)]

theorem lenI_bd (v : Int) (h0 : 0 ≤ v) (h1 : v ≤ 9223372036854775807) : ∃ n : Nat, lenI v = ((n + 1 : Nat) : Int) ∧ n ≤ 8 ∧ v < pw (n + 1) ∧ (n = 0 ∨ pw n ≤ v) := by
  have P := pws
  unfold lenI
  repeat' split
  · exact ⟨0, rfl, by omega, (by show v < pw 1; omega), .inl rfl⟩
  · exact ⟨1, rfl, by omega, (by show v < pw 2; omega), .inr (by omega)⟩
  · exact ⟨2, rfl, by omega, (by show v < pw 3; omega), .inr (by omega)⟩
  · exact ⟨3, rfl, by omega, (by show v < pw 4; omega), .inr (by omega)⟩
  · exact ⟨4, rfl, by omega, (by show v < pw 5; omega), .inr (by omega)⟩
  · exact ⟨5, rfl, by omega, (by show v < pw 6; omega), .inr (by omega)⟩
  · exact ⟨6, rfl, by omega, (by show v < pw 7; omega), .inr (by omega)⟩
  · exact ⟨7, rfl, by omega, (by show v < pw 8; omega), .inr (by omega)⟩
  · exact ⟨8, rfl, by omega, (by show v < pw 9; omega), .inr (by omega)⟩

theorem pw_mono {i j : Nat} (h : i ≤ j) : pw i ≤ pw j := by
  induction j with
  | zero =>
    obtain rfl : i = 0 := by omega
    exact Int.le_refl _
  | succ j ih =>
    by_cases e : i = j + 1
    · rw [e]; exact Int.le_refl _
    · have := ih (by omega); have := pw_pos j; rw [pw]; omega

/-- A number lies below just one power. -/
theorem lenI_of (v : Int) (n : Nat) (h0 : 0 ≤ v) (hn : n ≤ 8) (h : v < pw (n + 1)) (h' : n = 0 ∨ pw n ≤ v) : lenI v = ((n + 1 : Nat) : Int) := by
  obtain ⟨m, hm, hm8, hm1, hm2⟩ := lenI_bd v h0 (by have := pw_mono (i := n + 1) (j := 9) (by omega); have := pws; omega)
  have e : m = n := by
    rcases Nat.lt_trichotomy m n with hl | rfl | hl
    · have := pw_mono (i := m + 1) (j := n) (by omega); omega
    · rfl
    · have := pw_mono (i := n + 1) (j := m) (by omega); omega
  rw [hm, e]

theorem enc_length (n : Nat) : ∀ v : Int, 0 ≤ v → v < pw (n + 1) → (n = 0 ∨ pw n ≤ v) → (enc n v).length = n + 1 := by
  induction n with
  | zero => intro v _ _ _; rfl
  | succ n ih =>
    intro v h0 h1 h2
    have e : pw (n + 1) = 128 * pw n := rfl
    have e2 : pw (n + 1 + 1) = 128 * pw (n + 1) := rfl
    have := pw_pos n
    have hv : ¬ v < 128 := by omega
    rw [enc, if_neg hv, List.length_cons, ih (v / 128) (by omega) (by omega) (by omega)]

theorem putI_enc (v : Int) (n : Nat) (h0 : 0 ≤ v) (hn : n ≤ 8) (h : v < pw (n + 1)) : putI v = enc n v := by
  have := pw_mono (i := n + 1) (j := 9) (by omega)
  have := pws
  unfold putI
  rw [if_pos (by omega)]
  exact enc_fuel n 8 v h0 h hn

theorem putI_length (v : Int) (h0 : 0 ≤ v) (h1 : v ≤ 9223372036854775807) : ((putI v).length : Int) = lenI v := by
  obtain ⟨n, hn, hn8, hlt, hge⟩ := lenI_bd v h0 h1
  rw [putI_enc v n h0 hn8 hlt, enc_length n v h0 hlt hge, hn]

theorem putI_none (v : Int) (h : ¬ v ≤ 9223372036854775807) : putI v = [] := by unfold putI; rw [if_neg h]

theorem enc_bytes (n : Nat) : ∀ v : Int, 0 ≤ v → v < pw (n + 1) → ∀ x ∈ enc n v, 0 ≤ x ∧ x ≤ 255 := by
  induction n with
  | zero => intro v h0 h1 x hx; have : pw (0 + 1) = 128 := rfl; simp [enc] at hx; omega
  | succ n ih =>
    intro v h0 h1 x hx
    have e2 : pw (n + 1 + 1) = 128 * pw (n + 1) := rfl
    rw [enc] at hx
    split at hx
    · simp at hx; omega
    · rcases List.mem_cons.1 hx with rfl | hx
      · omega
      · exact ih (v / 128) (by omega) (by omega) x hx

theorem putI_bytes (v : Int) (h0 : 0 ≤ v) : ∀ x ∈ putI v, 0 ≤ x ∧ x ≤ 255 := by
  intro x hx
  unfold putI at hx
  split at hx
  · exact enc_bytes 8 v h0 (by have := pws; show v < pw 9; omega) x hx
  · simp at hx

theorem wr (x : Int) (h0 : -9223372036854775808 ≤ x) (h1 : x ≤ 9223372036854775807) : wrap64 x = x := by unfold wrap64; omega

/-! ### reading -/
def comb (a : Int) (d : Int × Int × Int) : Int × Int × Int := if d.2.2 = 0 then (a + 128 * d.1, d.2.1 + 1, 0) else (0, 0, d.2.2)
/-- The number with which bytes begin: n more of them may come; is the first one at hand? -/
def D : Bool → Nat → List Int → Int × Int × Int
  | _, 0, _ => (0, 0, 4)
  | _, _ + 1, [] => (0, 0, 2)
  | f, n + 1, c :: r => if c < 128 then (if c = 0 ∧ f = false then (0, 0, 3) else (c, 1, 0)) else comb (c - 128) (D false n r)
def getI (l : List Int) : Int × Int × Int := D true 9 l
def join (v : Int) (i : Nat) (d : Int × Int × Int) : Int × Int × Int := if d.2.2 = 0 then (v + pw i * d.1, i + d.2.1, 0) else (0, 0, d.2.2)

theorem join_comb (v a : Int) (i : Nat) (d : Int × Int × Int) : join v i (comb a d) = join (v + a * pw i) (i + 1) d := by
  obtain ⟨x, n, e⟩ := d
  unfold join comb
  by_cases h : e = 0
  · simp only [h, if_true]
    rw [show pw (i + 1) = 128 * pw i from rfl]
    refine Prod.ext ?_ (Prod.ext ?_ rfl)
    · show v + pw i * (a + 128 * x) = v + a * pw i + 128 * pw i * x
      rw [Int.mul_add, Int.mul_comm (pw i) a, ← Int.mul_assoc, Int.mul_comm (pw i) 128]
      omega
    · show (i : Int) + (n + 1) = ((i + 1 : Nat) : Int) + n
      omega
  · simp [h]

/-- What was put is got, whatever stands behind. -/
theorem D_enc (n : Nat) : ∀ (f : Bool) (m : Nat) (v : Int) (b : List Int), 0 ≤ v → v < pw (n + 1) → (f = false → 1 ≤ v) → n ≤ m → D f (m + 1) (enc n v ++ b) = (v, ((enc n v).length : Int), 0) := by
  induction n with
  | zero =>
    intro f m v b h0 h1 hf _
    have : pw (0 + 1) = 128 := rfl
    rw [enc, List.singleton_append, D, if_pos (by omega), if_neg (by rintro ⟨h, h'⟩; have := hf h'; omega)]
    rfl
  | succ n ih =>
    intro f m v b h0 h1 hf hm
    have e2 : pw (n + 1 + 1) = 128 * pw (n + 1) := rfl
    rw [enc]
    by_cases hv : v < 128
    · rw [if_pos hv, List.singleton_append, D, if_pos hv, if_neg (by rintro ⟨h, h'⟩; have := hf h'; omega)]
      rfl
    · obtain ⟨m, rfl⟩ : ∃ k, m = k + 1 := ⟨m - 1, by omega⟩
      rw [if_neg hv, List.cons_append, D, if_neg (by omega), ih false m (v / 128) b (by omega) (by omega) (by intro _; omega) (by omega)]
      unfold comb
      rw [if_pos rfl]
      refine Prod.ext ?_ (Prod.ext ?_ rfl)
      · show 128 + v % 128 - 128 + 128 * (v / 128) = v
        omega
      · simp

theorem getI_put (v : Int) (b : List Int) (h0 : 0 ≤ v) (h1 : v ≤ 9223372036854775807) : getI (putI v ++ b) = (v, ((putI v).length : Int), 0) := by
  unfold putI getI
  rw [if_pos h1]
  exact D_enc 8 true 8 v b h0 (by have := pws; show v < pw 9; omega) (by simp) (Nat.le_refl _)

/-- Cut off it is too short. -/
theorem D_cut (n : Nat) : ∀ (f : Bool) (m : Nat) (v : Int) (k : Nat), 0 ≤ v → v < pw (n + 1) → n ≤ m → k < (enc n v).length → D f (m + 1) ((enc n v).take k) = (0, 0, 2) := by
  induction n with
  | zero =>
    intro f m v k h0 h1 _ hk
    obtain rfl : k = 0 := by simp [enc] at hk; omega
    rfl
  | succ n ih =>
    intro f m v k h0 h1 hm hk
    have e2 : pw (n + 1 + 1) = 128 * pw (n + 1) := rfl
    cases k with
    | zero => rfl
    | succ k =>
      rw [enc] at hk ⊢
      by_cases hv : v < 128
      · rw [if_pos hv] at hk; simp at hk
      · obtain ⟨m, rfl⟩ : ∃ k, m = k + 1 := ⟨m - 1, by omega⟩
        rw [if_neg hv] at hk ⊢
        rw [List.take_succ_cons, D, if_neg (by omega), ih false m (v / 128) k (by omega) (by omega) (by omega) (by simpa using hk)]
        rfl

theorem getI_cut (v : Int) (k : Nat) (h0 : 0 ≤ v) (hk : k < (putI v).length) : getI ((putI v).take k) = (0, 0, 2) := by
  unfold putI getI at *
  by_cases h1 : v ≤ 9223372036854775807
  · rw [if_pos h1] at hk ⊢
    exact D_cut 8 true 8 v k h0 (by have := pws; show v < pw 9; omega) (Nat.le_refl _) hk
  · rw [if_neg h1] at hk; simp at hk

/-- What is got is put so: the bytes that it has are those of the number. -/
theorem D_put (n : Nat) : ∀ (f : Bool) (l : List Int) (v k : Int), (∀ x ∈ l, 0 ≤ x ∧ x ≤ 255) → D f (n + 1) l = (v, k, 0) → 0 ≤ v ∧ v < pw (n + 1) ∧ (f = false → 1 ≤ v) ∧ ∃ r, l = enc n v ++ r ∧ k = ((enc n v).length : Int) := by
  induction n with
  | zero =>
    intro f l v k hl h
    cases l with
    | nil => simp [D] at h
    | cons c r =>
      have hc := hl c (by simp)
      rw [D] at h
      by_cases h1 : c < 128
      · rw [if_pos h1] at h
        by_cases h2 : c = 0 ∧ f = false
        · rw [if_pos h2] at h; simp at h
        · rw [if_neg h2] at h
          simp only [Prod.mk.injEq, and_true] at h
          obtain ⟨rfl, rfl⟩ := h
          refine ⟨hc.1, by have : pw (0 + 1) = 128 := rfl; omega, fun hf => ?_, r, rfl, rfl⟩
          by_cases h3 : c = 0
          · exact absurd ⟨h3, hf⟩ h2
          · omega
      · rw [if_neg h1] at h; simp [D, comb] at h
  | succ n ih =>
    intro f l v k hl h
    have e2 : pw (n + 1 + 1) = 128 * pw (n + 1) := rfl
    have hp := pw_pos n
    have e3 : pw (n + 1) = 128 * pw n := rfl
    cases l with
    | nil => simp [D] at h
    | cons c r =>
      have hc := hl c (by simp)
      rw [D] at h
      by_cases h1 : c < 128
      · rw [if_pos h1] at h
        by_cases h2 : c = 0 ∧ f = false
        · rw [if_pos h2] at h; simp at h
        · rw [if_neg h2] at h
          simp only [Prod.mk.injEq, and_true] at h
          obtain ⟨rfl, rfl⟩ := h
          refine ⟨hc.1, by omega, fun hf => ?_, r, ?_, ?_⟩
          · by_cases h3 : c = 0
            · exact absurd ⟨h3, hf⟩ h2
            · omega
          · rw [enc, if_pos h1]; rfl
          · rw [enc, if_pos h1]; rfl
      · rw [if_neg h1] at h
        rcases hD : D false (n + 1) r with ⟨x, m, e⟩
        rw [hD] at h
        unfold comb at h
        by_cases he : e = 0
        · subst he
          simp only [if_true, Prod.mk.injEq, and_true] at h
          obtain ⟨rfl, rfl⟩ := h
          obtain ⟨g0, g1, g2, r', hr, hm⟩ := ih false r x m (fun y hy => hl y (by simp [hy])) hD
          have g3 := g2 rfl
          have a1 : ¬ (c - 128 + 128 * x < 128) := by omega
          have a2 : 128 + (c - 128 + 128 * x) % 128 = c := by omega
          have a3 : (c - 128 + 128 * x) / 128 = x := by omega
          refine ⟨by omega, by omega, by intro _; omega, r', ?_, ?_⟩
          · rw [enc, if_neg a1, a2, a3, List.cons_append, ← hr]
          · rw [enc, if_neg a1, a2, a3, List.length_cons, hm]; simp
        · simp [he] at h

theorem getI_ok (l : List Int) (v k : Int) (hl : ∀ x ∈ l, 0 ≤ x ∧ x ≤ 255) (h : getI l = (v, k, 0)) : 0 ≤ v ∧ v ≤ 9223372036854775807 ∧ ∃ r, l = putI v ++ r ∧ k = ((putI v).length : Int) := by
  obtain ⟨h0, h1, _, r, h2, h3⟩ := D_put 8 true l v k hl h
  have hv : v ≤ 9223372036854775807 := by have := pws; have h1' : v < pw 9 := h1; omega
  refine ⟨h0, hv, r, ?_, ?_⟩ <;> unfold putI <;> rw [if_pos hv]
  · exact h2
  · exact h3

/-- What D tells beside a number. -/
theorem D_code (n : Nat) : ∀ (f : Bool) (l : List Int), (D f n l).2.2 = 0 ∨ ((D f n l).1 = 0 ∧ (D f n l).2.1 = 0 ∧ ((D f n l).2.2 = 2 ∨ (D f n l).2.2 = 3 ∨ (D f n l).2.2 = 4)) := by
  induction n with
  | zero => intro f l; right; simp [D]
  | succ n ih =>
    intro f l
    cases l with
    | nil => right; simp [D]
    | cons c r =>
      rw [D]
      by_cases h1 : c < 128
      · rw [if_pos h1]
        by_cases h2 : c = 0 ∧ f = false
        · rw [if_pos h2]; right; simp
        · rw [if_neg h2]; left; rfl
      · rw [if_neg h1]
        unfold comb
        rcases ih false r with h | ⟨a, b, c⟩
        · rw [if_pos h]; left; rfl
        · rw [if_neg (by omega)]; right; exact ⟨rfl, rfl, c⟩

theorem enc_len_le (n : Nat) : ∀ v : Int, (enc n v).length ≤ n + 1 := by
  induction n with
  | zero => intro v; simp [enc]
  | succ n ih => intro v; rw [enc]; split <;> simp; exact ih _
theorem putI_len_le (v : Int) : (putI v).length ≤ 9 := by unfold putI; split <;> simp [enc_len_le]

/-- A number out of its pieces. -/
def Hn : List Int → Int
  | [] => 0
  | c :: r => c % 128 + 128 * Hn r

theorem Hn_bd : ∀ l : List Int, 0 ≤ Hn l ∧ Hn l < pw l.length
  | [] => by decide
  | c :: r => by
    have := Hn_bd r
    have e : pw (c :: r).length = 128 * pw r.length := rfl
    rw [Hn, e]; omega

theorem D_lead (j : Nat) : ∀ (f : Bool) (n : Nat) (l : List Int) (hj : j < l.length), j < n → (∀ x ∈ l, 0 ≤ x ∧ x ≤ 255) → (∀ i (h : i < l.length), i < j → 127 < l[i]) → l[j] ≤ 127 →
    D f n l = if l[j] = 0 ∧ (j ≠ 0 ∨ f = false) then (0, 0, 3) else (Hn (l.take (j + 1)), (j : Int) + 1, 0) := by
  induction j with
  | zero =>
    intro f n l hj hn hl _ hc
    obtain ⟨n, rfl⟩ : ∃ k, n = k + 1 := ⟨n - 1, by omega⟩
    cases l with
    | nil => simp at hj
    | cons c r =>
      have hcb := hl c (by simp)
      simp only [List.getElem_cons_zero] at hc ⊢
      rw [D, if_pos (by omega)]
      by_cases h : c = 0 ∧ f = false
      · rw [if_pos h, if_pos ⟨h.1, .inr h.2⟩]
      · rw [if_neg h, if_neg (by rintro ⟨a, b | b⟩; exact b rfl; exact h ⟨a, b⟩)]
        simp [Hn]; omega
  | succ j ih =>
    intro f n l hj hn hl hbig hc
    obtain ⟨n, rfl⟩ : ∃ k, n = k + 1 := ⟨n - 1, by omega⟩
    cases l with
    | nil => simp at hj
    | cons c r =>
      have hcb := hl c (by simp)
      have h0 := hbig 0 (by simp) (by omega)
      simp only [List.getElem_cons_zero] at h0
      have hj' : j < r.length := by simpa using hj
      have hc' : r[j] ≤ 127 := by simpa using hc
      have ih' := ih false n r hj' (by omega) (fun x hx => hl x (by simp [hx])) (fun i h hi => by have := hbig (i + 1) (by simp; omega) (by omega); rw [List.getElem_cons_succ] at this; exact this) hc'
      rw [D, if_neg (by omega), ih']
      simp only [List.getElem_cons_succ]
      by_cases h : r[j] = 0
      · rw [if_pos (by simp [h]), if_pos (by simp [h])]; rfl
      · rw [if_neg (by rintro ⟨a, _⟩; exact h a), if_neg (by rintro ⟨a, _⟩; exact h a)]
        simp only [comb, if_true, List.take_succ_cons, Hn]
        refine Prod.ext ?_ (Prod.ext ?_ rfl)
        · show c - 128 + 128 * Hn (List.take (j + 1) r) = c % 128 + 128 * Hn (List.take (j + 1) r)
          omega
        · show (j : Int) + 1 + 1 = ((j + 1 : Nat) : Int) + 1
          omega

theorem D_short : ∀ (f : Bool) (n : Nat) (l : List Int), (∀ x ∈ l, 127 < x) → l.length < n → D f n l = (0, 0, 2)
  | _, 0, l, _, h => by omega
  | _, _ + 1, [], _, _ => rfl
  | _, n + 1, c :: r, hl, h => by
    have := hl c (by simp)
    rw [D, if_neg (by omega), D_short false n r (fun x hx => hl x (by simp [hx])) (by simpa using h)]
    rfl

theorem D_limit : ∀ (f : Bool) (n : Nat) (l : List Int), (∀ i (h : i < l.length), i < n → 127 < l[i]) → n ≤ l.length → D f n l = (0, 0, 4)
  | _, 0, _, _, _ => rfl
  | _, n + 1, [], _, h => by simp at h
  | _, n + 1, c :: r, hl, h => by
    have := hl 0 (by simp) (by omega)
    simp only [List.getElem_cons_zero] at this
    rw [D, if_neg (by omega), D_limit false n r (fun i h' hi => by have := hl (i + 1) (by simp; omega) (by omega); rw [List.getElem_cons_succ] at this; exact this) (by simpa using h)]
    rfl

/-! ### the printed functions -/
/-- The table of bits.Len64: how many bits a byte has. -/
def tb (y : Int) : Int := bt (⟨#[0, 1, 2, 2, 3, 3, 3, 3, 4, 4, 4, 4, 4, 4, 4, 4, 5, 5, 5, 5, 5, 5, 5, 5, 5, 5, 5, 5, 5, 5, 5, 5, 6, 6, 6, 6, 6, 6, 6, 6, 6, 6, 6, 6, 6, 6, 6, 6, 6, 6, 6, 6, 6, 6, 6, 6, 6, 6, 6, 6, 6, 6, 6, 6, 7, 7, 7, 7, 7, 7, 7, 7, 7, 7, 7, 7, 7, 7, 7, 7, 7, 7, 7, 7, 7, 7, 7, 7, 7, 7, 7, 7, 7, 7, 7, 7, 7, 7, 7, 7, 7, 7, 7, 7, 7, 7, 7, 7, 7, 7, 7, 7, 7, 7, 7, 7, 7, 7, 7, 7, 7, 7, 7, 7, 7, 7, 7, 7, 8, 8, 8, 8, 8, 8, 8, 8, 8, 8, 8, 8, 8, 8, 8, 8, 8, 8, 8, 8, 8, 8, 8, 8, 8, 8, 8, 8, 8, 8, 8, 8, 8, 8, 8, 8, 8, 8, 8, 8, 8, 8, 8, 8, 8, 8, 8, 8, 8, 8, 8, 8, 8, 8, 8, 8, 8, 8, 8, 8, 8, 8, 8, 8, 8, 8, 8, 8, 8, 8, 8, 8, 8, 8, 8, 8, 8, 8, 8, 8, 8, 8, 8, 8, 8, 8, 8, 8, 8, 8, 8, 8, 8, 8, 8, 8, 8, 8, 8, 8, 8, 8, 8, 8, 8, 8, 8, 8, 8, 8, 8, 8, 8, 8, 8, 8, 8, 8, 8, 8, 8, 8, 8, 8, 8, 8, 8, 8]⟩ : ByteArray) y
theorem j0_eq (k : Nat) (x0 x2 : Int) : bits_Len64.j0 (k + 1) x0 x2 = if x0 ≥ 65536 then (if (x0 / 65536) ≥ 256 then (if 0 ≤ (((x0 / 65536) / 256) % 256) then (if (((x0 / 65536) / 256) % 256) < 256 then (some (wrap64 ((wrap64 ((wrap64 (x2 + 16)) + 8)) + (wrap64 (tb (((x0 / 65536) / 256) % 256)))))) else (none)) else (none)) else (if 0 ≤ ((x0 / 65536) % 256) then (if ((x0 / 65536) % 256) < 256 then (some (wrap64 ((wrap64 (x2 + 16)) + (wrap64 (tb ((x0 / 65536) % 256)))))) else (none)) else (none))) else (if x0 ≥ 256 then (if 0 ≤ ((x0 / 256) % 256) then (if ((x0 / 256) % 256) < 256 then (some (wrap64 ((wrap64 (x2 + 8)) + (wrap64 (tb ((x0 / 256) % 256)))))) else (none)) else (none)) else (if 0 ≤ ((x0) % 256) then (if ((x0) % 256) < 256 then (some (wrap64 (x2 + (wrap64 (tb ((x0) % 256)))))) else (none)) else (none))) := rfl
theorem tab (y : Int) (h0 : 0 ≤ y) (h1 : y < 256) : ∃ t, tb y = t ∧ ((y < 1 ∧ t = 0) ∨ (1 ≤ y ∧ y < 2 ∧ t = 1) ∨ (2 ≤ y ∧ y < 4 ∧ t = 2) ∨ (4 ≤ y ∧ y < 8 ∧ t = 3) ∨ (8 ≤ y ∧ y < 16 ∧ t = 4) ∨ (16 ≤ y ∧ y < 32 ∧ t = 5) ∨ (32 ≤ y ∧ y < 64 ∧ t = 6) ∨ (64 ≤ y ∧ y < 128 ∧ t = 7) ∨ (128 ≤ y ∧ t = 8)) := by
  obtain ⟨m, rfl⟩ := Int.eq_ofNat_of_zero_le h0
  have hm : m < 256 := by omega
  have key : ∀ m : Fin 256, ∃ t, (fun y : Int => tb y) ((m.val : Nat) : Int) = t ∧ (((m.val : Int) < 1 ∧ t = 0) ∨ (1 ≤ (m.val : Int) ∧ (m.val : Int) < 2 ∧ t = 1) ∨ (2 ≤ (m.val : Int) ∧ (m.val : Int) < 4 ∧ t = 2) ∨ (4 ≤ (m.val : Int) ∧ (m.val : Int) < 8 ∧ t = 3) ∨ (8 ≤ (m.val : Int) ∧ (m.val : Int) < 16 ∧ t = 4) ∨ (16 ≤ (m.val : Int) ∧ (m.val : Int) < 32 ∧ t = 5) ∨ (32 ≤ (m.val : Int) ∧ (m.val : Int) < 64 ∧ t = 6) ∨ (64 ≤ (m.val : Int) ∧ (m.val : Int) < 128 ∧ t = 7) ∨ (128 ≤ (m.val : Int) ∧ t = 8)) := by
    have h : ∀ m : Fin 256, (fun t : Int => (((m.val : Int) < 1 ∧ t = 0) ∨ (1 ≤ (m.val : Int) ∧ (m.val : Int) < 2 ∧ t = 1) ∨ (2 ≤ (m.val : Int) ∧ (m.val : Int) < 4 ∧ t = 2) ∨ (4 ≤ (m.val : Int) ∧ (m.val : Int) < 8 ∧ t = 3) ∨ (8 ≤ (m.val : Int) ∧ (m.val : Int) < 16 ∧ t = 4) ∨ (16 ≤ (m.val : Int) ∧ (m.val : Int) < 32 ∧ t = 5) ∨ (32 ≤ (m.val : Int) ∧ (m.val : Int) < 64 ∧ t = 6) ∨ (64 ≤ (m.val : Int) ∧ (m.val : Int) < 128 ∧ t = 7) ∨ (128 ≤ (m.val : Int) ∧ t = 8))) ((fun y : Int => tb y) ((m.val : Nat) : Int)) := by decide +kernel
    exact fun m => ⟨_, rfl, h m⟩
  exact key ⟨m, hm⟩

/-- How many bits: as much as Len needs. -/
def bitsOk (v n : Int) : Prop := mx 1 (wrap64 (Int.tdiv (wrap64 ((wrap64 (n + 7)) - 1)) 7)) = lenI v

set_option maxHeartbeats 8000000 in
theorem len64_ok (v : Int) (h0 : 0 ≤ v) (h1 : v ≤ 9223372036854775807) : ∃ n, Ev (fun k => bits_Len64.f k v) n ∧ bitsOk v n := by
  have fin : ∀ n : Int, 0 ≤ n → n ≤ 64 → (n ≤ 7 ∧ v < 128 ∨ 8 ≤ n ∧ n ≤ 14 ∧ 128 ≤ v ∧ v < 16384 ∨ 15 ≤ n ∧ n ≤ 21 ∧ 16384 ≤ v ∧ v < 2097152 ∨ 22 ≤ n ∧ n ≤ 28 ∧ 2097152 ≤ v ∧ v < 268435456 ∨ 29 ≤ n ∧ n ≤ 35 ∧ 268435456 ≤ v ∧ v < 34359738368 ∨ 36 ≤ n ∧ n ≤ 42 ∧ 34359738368 ≤ v ∧ v < 4398046511104 ∨ 43 ≤ n ∧ n ≤ 49 ∧ 4398046511104 ≤ v ∧ v < 562949953421312 ∨ 50 ≤ n ∧ n ≤ 56 ∧ 562949953421312 ≤ v ∧ v < 72057594037927936 ∨ 57 ≤ n ∧ n ≤ 63 ∧ 72057594037927936 ≤ v) → bitsOk v n := by
    intro n a b h
    unfold bitsOk
    rw [wr (n + 7) (by omega) (by omega), wr (n + 7 - 1) (by omega) (by omega), Int.tdiv_eq_ediv_of_nonneg (by omega), wr _ (by omega) (by omega)]
    unfold mx lenI
    rcases h with h | h | h | h | h | h | h | h | h
    · rw [if_pos h.2]; split <;> omega
    · rw [if_pos (by omega), if_neg (by omega), if_pos (by omega)]; omega
    · rw [if_pos (by omega), if_neg (by omega), if_neg (by omega), if_pos (by omega)]; omega
    · rw [if_pos (by omega), if_neg (by omega), if_neg (by omega), if_neg (by omega), if_pos (by omega)]; omega
    · rw [if_pos (by omega), if_neg (by omega), if_neg (by omega), if_neg (by omega), if_neg (by omega), if_pos (by omega)]; omega
    · rw [if_pos (by omega), if_neg (by omega), if_neg (by omega), if_neg (by omega), if_neg (by omega), if_neg (by omega), if_pos (by omega)]; omega
    · rw [if_pos (by omega), if_neg (by omega), if_neg (by omega), if_neg (by omega), if_neg (by omega), if_neg (by omega), if_neg (by omega), if_pos (by omega)]; omega
    · rw [if_pos (by omega), if_neg (by omega), if_neg (by omega), if_neg (by omega), if_neg (by omega), if_neg (by omega), if_neg (by omega), if_neg (by omega), if_pos (by omega)]; omega
    · rw [if_pos (by omega), if_neg (by omega), if_neg (by omega), if_neg (by omega), if_neg (by omega), if_neg (by omega), if_neg (by omega), if_neg (by omega), if_neg (by omega)]; omega
  -- what stands behind the first test
  have low : ∀ (x s : Int), 0 ≤ x → x ≤ 4294967295 → (s = 0 ∧ x = v ∨ s = 32 ∧ x = v / 4294967296 ∧ 4294967296 ≤ v) → ∃ n, Ev (fun k => bits_Len64.j0 k x s) n ∧ bitsOk v n := by
    intro x s x0 x1 hs
    by_cases g1 : x ≥ 65536
    · by_cases g2 : x / 65536 ≥ 256
      · obtain ⟨t, ht, hc⟩ := tab (((x / 65536) / 256) % 256) (by omega) (by omega)
        refine ⟨_, Ev.step (f := fun _ => some (wrap64 ((wrap64 ((wrap64 (s + 16)) + 8)) + (wrap64 t)))) (fun k => by rw [j0_eq, if_pos g1, if_pos g2, if_pos (by omega), if_pos (by omega), ht]) (Ev.now _), ?_⟩
        clear ht
        rw [wr (s + 16) (by omega) (by omega), wr (s + 16 + 8) (by omega) (by omega), wr t (by omega) (by omega), wr _ (by omega) (by omega)]
        refine fin _ (by omega) (by omega) ?_
        rcases hs with ⟨rfl, rfl⟩ | ⟨rfl, rfl, _⟩ <;> rcases hc with hc | hc | hc | hc | hc | hc | hc | hc | hc <;> omega
      · obtain ⟨t, ht, hc⟩ := tab ((x / 65536) % 256) (by omega) (by omega)
        refine ⟨_, Ev.step (f := fun _ => some (wrap64 ((wrap64 (s + 16)) + (wrap64 t)))) (fun k => by rw [j0_eq, if_pos g1, if_neg g2, if_pos (by omega), if_pos (by omega), ht]) (Ev.now _), ?_⟩
        clear ht
        rw [wr (s + 16) (by omega) (by omega), wr t (by omega) (by omega), wr _ (by omega) (by omega)]
        refine fin _ (by omega) (by omega) ?_
        rcases hs with ⟨rfl, rfl⟩ | ⟨rfl, rfl, _⟩ <;> rcases hc with hc | hc | hc | hc | hc | hc | hc | hc | hc <;> omega
    · by_cases g2 : x ≥ 256
      · obtain ⟨t, ht, hc⟩ := tab ((x / 256) % 256) (by omega) (by omega)
        refine ⟨_, Ev.step (f := fun _ => some (wrap64 ((wrap64 (s + 8)) + (wrap64 t)))) (fun k => by rw [j0_eq, if_neg g1, if_pos g2, if_pos (by omega), if_pos (by omega), ht]) (Ev.now _), ?_⟩
        clear ht
        rw [wr (s + 8) (by omega) (by omega), wr t (by omega) (by omega), wr _ (by omega) (by omega)]
        refine fin _ (by omega) (by omega) ?_
        rcases hs with ⟨rfl, rfl⟩ | ⟨rfl, rfl, _⟩ <;> rcases hc with hc | hc | hc | hc | hc | hc | hc | hc | hc <;> omega
      · obtain ⟨t, ht, hc⟩ := tab (x % 256) (by omega) (by omega)
        refine ⟨_, Ev.step (f := fun _ => some (wrap64 (s + (wrap64 t)))) (fun k => by rw [j0_eq, if_neg g1, if_neg g2, if_pos (by omega), if_pos (by omega), ht]) (Ev.now _), ?_⟩
        clear ht
        rw [wr t (by omega) (by omega), wr _ (by omega) (by omega)]
        refine fin _ (by omega) (by omega) ?_
        rcases hs with ⟨rfl, rfl⟩ | ⟨rfl, rfl, _⟩ <;> rcases hc with hc | hc | hc | hc | hc | hc | hc | hc | hc <;> omega
  by_cases g : v ≥ 4294967296
  · obtain ⟨n, hn, hb⟩ := low (v / 4294967296) 32 (by omega) (by omega) (.inr ⟨rfl, rfl, by omega⟩)
    exact ⟨n, Ev.congr (fun k => by unfold bits_Len64.f; rw [if_pos g]) hn, hb⟩
  · obtain ⟨n, hn, hb⟩ := low v 0 (by omega) (by omega) (.inl ⟨rfl, rfl⟩)
    exact ⟨n, Ev.congr (fun k => by unfold bits_Len64.f; rw [if_neg g]) hn, hb⟩

theorem len_yes (v : Int) (h0 : 0 ≤ v) (h1 : v ≤ 9223372036854775807) : Ev (fun k => uvar_Len.f k v) (lenI v) := by
  obtain ⟨n, hn, hb⟩ := len64_ok v h0 h1
  refine Ev.congr (f := fun k => (bits_Len64.f k v).bind fun t101 => (some (mx 1 (wrap64 (Int.tdiv (wrap64 ((wrap64 (t101 + 7)) - 1)) 7))))) (fun k => by unfold uvar_Len.f; rw [if_neg (by omega)]) ?_
  refine Ev.bind hn ?_
  rw [hb]
  exact Ev.now _
theorem len_no (v : Int) (h0 : 9223372036854775808 ≤ v) (h1 : v ≤ 18446744073709551615) : Ev (fun k => uvar_Len.f k v) 0 :=
  Ev.congr (f := fun _ => some 0) (fun k => by unfold uvar_Len.f; rw [if_pos (by omega)]) (Ev.now _)

theorem shr_pw (v : Int) (i : Nat) (hi : i ≤ 9) : shr .u64 v (wrap64 (7 * (i : Int))) = v / pw i := by
  unfold shr
  rw [wr (7 * (i : Int)) (by omega) (by omega), show (7 * (i : Int)).toNat = 7 * i by omega, show IntKind.u64.bits = 64 from rfl, Nat.min_eq_left (by omega), pw_two]

theorem andNot128 (x : Int) (h0 : 0 ≤ x) (h1 : x < 256) : Go.bits .andNot .u8 x 128 = x % 128 := by
  rw [u8_andNot x 128 h0 h1 (by omega) (by omega)]
  have h : ∀ m : Fin 256, ((m.val &&& (255 - Int.toNat 128) : Nat) : Int) = (m.val : Int) % 128 := by decide +kernel
  have := h ⟨x.toNat, by omega⟩
  simp only at this
  rw [this]
  omega

theorem put_loop (v : Int) (h0 : 0 ≤ v) (n : Nat) (hn : n ≤ 8) (hlt : v < pw (n + 1)) (hge : n = 0 ∨ pw n ≤ v) (d : Nat) : ∀ (i : Nat) (acc : List Int), i + d = n → acc.length ≤ i →
    Ev (fun k => uvar_Put.l0 k v ((n + 1 : Nat) : Int) acc ((n + 1 : Nat) : Int) i) (acc ++ enc d (v / pw i)) := by
  induction d with
  | zero =>
    intro i acc hi ha
    obtain rfl : i = n := by omega
    have hp := pw_pos i
    have hq : v / pw i < 128 := by
      have e : pw (i + 1) = 128 * pw i := rfl
      rw [e] at hlt
      exact Int.ediv_lt_of_lt_mul (by omega) hlt
    have hq0 : 0 ≤ v / pw i := Int.ediv_nonneg h0 (by omega)
    refine Ev.step (f := fun k => uvar_Put.l0 k v ((i + 1 : Nat) : Int) (acc ++ [v / pw i]) ((i + 1 : Nat) : Int) ((i + 1 : Nat) : Int)) (fun k => ?_) ?_
    · simp only [uvar_Put.l0]
      rw [if_pos (by omega), if_pos (by rw [wr _ (by omega) (by omega)]; omega), wr ((i : Int) + 1) (by omega) (by omega), if_neg (by omega), if_pos (by omega), shr_pw v i (by omega), andNot128 _ (by omega) (by omega)]
      rw [show (v / pw i) % 256 % 128 = v / pw i by omega]
      rfl
    · refine Ev.step (f := fun _ => some (acc ++ [v / pw i])) (fun k => ?_) (Ev.now _)
      simp only [uvar_Put.l0]
      rw [if_neg (by omega)]
  | succ d ih =>
    intro i acc hi ha
    have hp := pw_pos i
    have e : pw (i + 1) = 128 * pw i := rfl
    have hq0 : 0 ≤ v / pw i := Int.ediv_nonneg h0 (by omega)
    have hq : 128 ≤ v / pw i := by
      have := pw_mono (i := i + 1) (j := n) (by omega)
      rw [Int.le_ediv_iff_mul_le (by omega)]
      omega
    have hdd : v / pw i / 128 = v / pw (i + 1) := by rw [Int.ediv_ediv_of_nonneg (by omega), e, Int.mul_comm]
    refine Ev.step (f := fun k => uvar_Put.l0 k v ((n + 1 : Nat) : Int) (acc ++ [128 + (v / pw i) % 128]) ((n + 1 : Nat) : Int) ((i + 1 : Nat) : Int)) (fun k => ?_) ?_
    · simp only [uvar_Put.l0]
      rw [if_pos (by omega), if_pos (by rw [wr _ (by omega) (by omega)]; omega), wr ((i : Int) + 1) (by omega) (by omega), if_pos (by omega), if_pos (by omega), shr_pw v i (by omega), andNot128 _ (by omega) (by omega), Go.u8_or128_right _ (by omega) (by omega)]
      rw [show (v / pw i) % 256 % 128 + 128 = 128 + v / pw i % 128 by omega]
      rfl
    · have := ih (i + 1) (acc ++ [128 + (v / pw i) % 128]) (by omega) (by simp; omega)
      rw [List.append_assoc, ← hdd] at this
      rw [enc, if_neg (by omega)]
      exact this

theorem put_yes (v : Int) (h0 : 0 ≤ v) (h1 : v ≤ 18446744073709551615) : Ev (fun k => uvar_Put.f k v) (putI v) := by
  by_cases hv : v ≤ 9223372036854775807
  · obtain ⟨n, hl, hn, hlt, hge⟩ := lenI_bd v h0 hv
    have := put_loop v h0 n hn hlt hge n 0 [] (by omega) (by simp)
    refine Ev.bind (len_yes v h0 hv) ?_
    rw [hl, putI_enc v n h0 hn hlt]
    refine Ev_if (by omega) (Ev_if (by omega) ?_)
    simpa [pw] using this
  · refine Ev.bind (len_no v (by omega) h1) ?_
    rw [putI_none v hv]
    refine Ev_if (by omega) (Ev_if (by omega) ?_)
    exact Ev.step (f := fun _ => some []) (fun k => by simp only [uvar_Put.l0]; rw [if_neg (by omega)]) (Ev.now _)

theorem bitstep (i : Nat) (hi : i ≤ 8) (v c : Int) (h0 : 0 ≤ v) (h1 : v < pw i) (hc0 : 0 ≤ c) (hc1 : c ≤ 255) :
    Go.bits .or .u64 v (shl .u64 (IntKind.u64.wrap (Go.bits .andNot .u8 c 128)) (wrap64 (7 * (i : Int)))) = v + (c % 128) * pw i := by
  have hp := pw_pos i
  have h8 := pw_mono (i := i) (j := 8) hi
  have P := pws
  rw [andNot128 c hc0 (by omega)]
  have hw : IntKind.u64.wrap (c % 128) = c % 128 := by rw [IntKind.wrap_u64]; omega
  unfold shl
  rw [hw, wr (7 * (i : Int)) (by omega) (by omega), show (7 * (i : Int)).toNat = 7 * i by omega, show IntKind.u64.bits = 64 from rfl, Nat.min_eq_left (by omega), pw_two]
  have hb : (c % 128) * pw i ≤ 127 * pw i := Int.mul_le_mul_of_nonneg_right (by omega) (by omega)
  have hb0 : 0 ≤ (c % 128) * pw i := Int.mul_nonneg (by omega) (by omega)
  have hw2 : IntKind.u64.wrap ((c % 128) * pw i) = (c % 128) * pw i := by rw [IntKind.wrap_u64]; omega
  rw [hw2]
  obtain ⟨a, rfl⟩ := Int.eq_ofNat_of_zero_le h0
  obtain ⟨b, hb'⟩ := Int.eq_ofNat_of_zero_le (show 0 ≤ c % 128 by omega)
  rw [hb', pw_nat i, ← Int.natCast_mul, Go.bits_or_u64_nat a (b * 2 ^ (7 * i)) (by omega) (by rw [hb', pw_nat i, ← Int.natCast_mul] at hb; have := pw_nat i; omega)]
  have ha : a < 2 ^ (7 * i) := by rw [pw_nat i] at h1; omega
  rw [Nat.or_comm, Nat.mul_comm, ← Nat.two_pow_add_eq_or_of_lt ha b]
  rw [Nat.mul_comm, Nat.add_comm]
  simp

theorem rd_get (l : List Int) (i : Nat) (h : i < l.length) : rd l (i : Int) = l[i] := by simp [rd, List.getD_eq_getElem?_getD, h]

theorem get_loop (l : List Int) (hl : ∀ x ∈ l, 0 ≤ x ∧ x ≤ 255) (m : Nat) (hm : m = min l.length 9) (d : Nat) : ∀ (i : Nat) (v : Int), i + d = m → 0 ≤ v → v < pw i →
    Ev (fun k => uvar_Get.l0 k l v (l.take m) (m : Int) i) (join v i (D (i == 0) (9 - i) (l.drop i))) := by
  induction d with
  | zero =>
    intro i v hi h0 h1
    by_cases hlen : l.length < 9
    · refine Ev.step (f := fun _ => some (0, 0, 2)) (fun k => by simp only [uvar_Get.l0]; rw [if_neg (by omega), if_pos (by omega)]) ?_
      rw [List.drop_eq_nil_of_le (by omega), show 9 - i = (8 - i) + 1 by omega]
      simp only [D, join]
      exact Ev.now _
    · refine Ev.step (f := fun _ => some (0, 0, 4)) (fun k => by simp only [uvar_Get.l0]; rw [if_neg (by omega), if_neg (by omega)]) ?_
      rw [show 9 - i = 0 by omega]
      simp only [D, join]
      exact Ev.now _
  | succ d ih =>
    intro i v hi h0 h1
    have hlt : i < l.length := by omega
    have hc := hl l[i] (List.getElem_mem hlt)
    have hlt' : i < (l.take m).length := by rw [List.length_take]; omega
    have hrd : rd (l.take m) (i : Int) = l[i] := by rw [rd_get _ i hlt', List.getElem_take]
    have hbit := bitstep i (by omega) v l[i] h0 h1 hc.1 hc.2
    have e : pw (i + 1) = 128 * pw i := rfl
    have hp := pw_pos i
    rw [List.drop_eq_getElem_cons hlt, show 9 - i = (8 - i) + 1 by omega, D]
    by_cases hs : l[i] < 128
    · have hcm : l[i] % 128 = l[i] := by omega
      rw [hcm] at hbit
      rw [if_pos hs]
      have hv1 : v + l[i] * pw i < pw (i + 1) := by
        have : l[i] * pw i ≤ 127 * pw i := Int.mul_le_mul_of_nonneg_right (by omega) (by omega)
        omega
      have hv0 : 0 ≤ v + l[i] * pw i := Int.add_nonneg h0 (Int.mul_nonneg hc.1 (by omega))
      have h9 := pw_mono (i := i + 1) (j := 9) (by omega)
      have P := pws
      have hlen := len_yes (v + l[i] * pw i) hv0 (by omega)
      refine Ev.step (f := fun k => (uvar_Len.f k (v + l[i] * pw i)).bind fun t114 => (if t114 = (wrap64 ((i : Int) + 1)) then (some (v + l[i] * pw i, wrap64 ((i : Int) + 1), 0)) else (some (0, 0, 3)))) (fun k => ?_) ?_
      · simp only [uvar_Get.l0]
        rw [if_pos (by omega), if_pos (by omega), if_pos (by omega), if_pos (by rw [wr _ (by omega) (by omega)]; omega), hrd, if_pos hs, hbit]
      · refine Ev.bind hlen ?_
        rw [wr ((i : Int) + 1) (by omega) (by omega)]
        by_cases hz : l[i] = 0 ∧ (i == 0) = false
        · have hi0 : i ≠ 0 := by intro h; simp [h] at hz
          have : ¬ lenI (v + l[i] * pw i) = (i : Int) + 1 := by
            obtain ⟨n, g1, g2, g3, g4⟩ := lenI_bd (v + l[i] * pw i) hv0 (by omega)
            rw [g1]
            intro hh
            obtain rfl : n = i := by omega
            rw [hz.1] at g4
            omega
          rw [if_neg this, if_pos hz]
          simp only [join]
          exact Ev.now _
        · have : lenI (v + l[i] * pw i) = ((i + 1 : Nat) : Int) := by
            refine lenI_of _ i hv0 (by omega) hv1 ?_
            by_cases hi0 : i = 0
            · exact .inl hi0
            · right
              have : 1 ≤ l[i] := by
                by_cases h' : l[i] = 0
                · exact absurd ⟨h', by simp [hi0]⟩ hz
                · omega
              have : 1 * pw i ≤ l[i] * pw i := Int.mul_le_mul_of_nonneg_right this (by omega)
              omega
          rw [if_pos (by rw [this]; omega), if_neg hz]
          have ej : join v i (l[i], 1, 0) = (v + l[i] * pw i, (i : Int) + 1, 0) := by simp [join, Int.mul_comm]
          rw [ej]
          exact Ev.now _
    · rw [if_neg hs]
      have hcm : l[i] % 128 = l[i] - 128 := by omega
      rw [hcm] at hbit
      have hb1 : (l[i] - 128) * pw i ≤ 127 * pw i := Int.mul_le_mul_of_nonneg_right (by omega) (by omega)
      have hb0 : 0 ≤ (l[i] - 128) * pw i := Int.mul_nonneg (by omega) (by omega)
      have := ih (i + 1) (v + (l[i] - 128) * pw i) (by omega) (by omega) (by omega)
      rw [join_comb]
      refine Ev.step (f := fun k => uvar_Get.l0 k l (v + (l[i] - 128) * pw i) (l.take m) (m : Int) ((i + 1 : Nat) : Int)) (fun k => ?_) (by simpa [show 9 - (i + 1) = 8 - i by omega] using this)
      simp only [uvar_Get.l0]
      rw [if_pos (by omega), if_pos (by omega), if_pos (by omega), if_pos (by rw [wr _ (by omega) (by omega)]; omega), hrd, if_neg hs, hbit, wr ((i : Int) + 1) (by omega) (by omega)]
      rfl

theorem get_yes (l : List Int) (hl : ∀ x ∈ l, 0 ≤ x ∧ x ≤ 255) : Ev (fun k => uvar_Get.f k l) (getI l) := by
  have h := get_loop l hl (min l.length 9) rfl (min l.length 9) 0 0 (by omega) (by omega) (by decide)
  have hm : mn (l.length : Int) 9 = ((min l.length 9 : Nat) : Int) := by unfold mn; split <;> omega
  have hj : join 0 0 (D (0 == 0) (9 - 0) (l.drop 0)) = getI l := by
    unfold getI
    simp only [List.drop_zero, BEq.rfl, Nat.sub_zero]
    rcases D_code 9 true l with h | ⟨a, b, c⟩
    · rcases hD : D true 9 l with ⟨x, n, e⟩
      rw [hD] at h
      simp only at h
      subst h
      simp [join, pw]
    · rcases hD : D true 9 l with ⟨x, n, e⟩
      rw [hD] at a b c
      simp only at a b c
      subst a; subst b
      unfold join
      rw [if_neg (by simp only; omega)]
  rw [hj] at h
  refine Ev.congr (f := fun k => uvar_Get.l0 k l 0 (l.take (min l.length 9)) ((min l.length 9 : Nat) : Int) ((0 : Nat) : Int)) (fun k => ?_) h
  unfold uvar_Get.f
  rw [hm, if_pos (by omega), if_pos (by omega), Int.toNat_natCast]
  rw [show (l.take (min l.length 9)).length = min l.length 9 by rw [List.length_take]; omega]
  rfl


end Go.Proofs.Yteajlffchdbkjaa.Uv
