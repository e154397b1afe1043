/-
  addr: how addresses stand, plain; a row of bytes as a string. Conditions: as the theorems state them.
-/
import Derived.Test.YtjbhcaifmgbpgaaDoorBd
import Derived.Laws.BytesArg
import Derived.Laws.Cover1
namespace Go.Proofs.YtjbhcaifmgbpgaaDoor.Ad
open Go Go.RowKit Go.Shelf
set_option linter.unusedVariables false
set_option linter.unusedSimpArgs false
theorem cmpA_cases (h1 p1 h2 p2 : Int) : (h1 < h2 ∧ cmpA h1 p1 h2 p2 = -1) ∨ (h1 = h2 ∧ p1 < p2 ∧ cmpA h1 p1 h2 p2 = -1) ∨ (h1 = h2 ∧ p1 = p2 ∧ cmpA h1 p1 h2 p2 = 0) ∨ (h1 = h2 ∧ p2 < p1 ∧ cmpA h1 p1 h2 p2 = 1) ∨ (h2 < h1 ∧ cmpA h1 p1 h2 p2 = 1) := by
  unfold cmpA orI Lib.compareInt
  by_cases a : h1 < h2
  · exact .inl ⟨a, by rw [if_pos a, if_neg (by decide)]⟩
  · by_cases b : h1 > h2
    · exact .inr (.inr (.inr (.inr ⟨b, by rw [if_neg a, if_pos b, if_neg (by decide)]⟩)))
    · have e : h1 = h2 := by omega
      rw [if_neg a, if_neg b, if_pos rfl]
      by_cases c : p1 < p2
      · exact .inr (.inl ⟨e, c, by rw [if_pos c]⟩)
      · by_cases d : p1 > p2
        · exact .inr (.inr (.inr (.inl ⟨e, d, by rw [if_neg c, if_pos d]⟩)))
        · exact .inr (.inr (.inl ⟨e, by omega, by rw [if_neg c, if_neg d]⟩))
theorem cmpA_in (h1 p1 h2 p2 : Int) : -1 ≤ cmpA h1 p1 h2 p2 ∧ cmpA h1 p1 h2 p2 ≤ 1 := by
  have := cmpA_cases h1 p1 h2 p2
  omega
theorem cmpA_neg (h1 p1 h2 p2 : Int) : cmpA h2 p2 h1 p1 = - cmpA h1 p1 h2 p2 := by
  have a := cmpA_cases h1 p1 h2 p2
  have b := cmpA_cases h2 p2 h1 p1
  omega
theorem cmpA_self (h p : Int) : cmpA h p h p = 0 := by
  have a := cmpA_cases h p h p
  omega
theorem cmpA_trans {h1 p1 h2 p2 h3 p3 : Int} (h : cmpA h1 p1 h2 p2 ≤ 0) (k : cmpA h2 p2 h3 p3 ≤ 0) : cmpA h1 p1 h3 p3 ≤ 0 := by
  have a := cmpA_cases h1 p1 h2 p2
  have b := cmpA_cases h2 p2 h3 p3
  have c := cmpA_cases h1 p1 h3 p3
  omega
theorem cmpA_less (h1 p1 h2 p2 : Int) : decide (cmpA h1 p1 h2 p2 < 0) = lessA h1 p1 h2 p2 := by
  unfold lessA
  rw [Bool.eq_iff_iff]
  simp only [decide_eq_true_eq, Bool.or_eq_true, Bool.and_eq_true]
  have a := cmpA_cases h1 p1 h2 p2
  omega
theorem cmpA_more (h1 p1 h2 p2 : Int) : decide (cmpA h1 p1 h2 p2 > 0) = lessA h2 p2 h1 p1 := by
  unfold lessA
  rw [Bool.eq_iff_iff]
  simp only [decide_eq_true_eq, Bool.or_eq_true, Bool.and_eq_true]
  have a := cmpA_cases h1 p1 h2 p2
  omega
theorem cmpA_same (h1 p1 h2 p2 : Int) : decide (cmpA h1 p1 h2 p2 = 0) = eqA h1 p1 h2 p2 := by
  unfold eqA
  rw [Bool.eq_iff_iff]
  simp only [decide_eq_true_eq, Bool.and_eq_true, beq_iff_eq]
  have a := cmpA_cases h1 p1 h2 p2
  omega
/-! ### rows of bytes as strings -/
def u8N (n : Int) : UInt8 := UInt8.ofNat n.toNat
def numL : List Int → Int
  | [] => 0
  | x :: xs => x * 256 ^ xs.length + numL xs
theorem pow_pos256 (n : Nat) : (0 : Int) < 256 ^ n := Int.pow_pos (by decide)
theorem numL_in : ∀ (xs : List Int), InB xs → 0 ≤ numL xs ∧ numL xs < 256 ^ xs.length
  | [], _ => ⟨by decide, by decide⟩
  | x :: xs, h => by
    have ih := numL_in xs (fun y hy => h y (by simp [hy]))
    have hx := h x (by simp)
    have hk := pow_pos256 xs.length
    have h1 : 0 ≤ x * 256 ^ xs.length := Int.mul_nonneg hx.1 (by omega)
    have h2 : x * 256 ^ xs.length ≤ 255 * 256 ^ xs.length := Int.mul_le_mul_of_nonneg_right hx.2 (by omega)
    have h3 : (256 : Int) ^ (x :: xs).length = 256 ^ xs.length * 256 := by rw [List.length_cons, Int.pow_succ]
    show 0 ≤ x * 256 ^ xs.length + numL xs ∧ x * 256 ^ xs.length + numL xs < 256 ^ (x :: xs).length
    rw [h3]
    omega
theorem u8N_lt {a b : Int} (ha : 0 ≤ a ∧ a ≤ 255) (hb : 0 ≤ b ∧ b ≤ 255) : (u8N a < u8N b) ↔ a < b := by
  unfold u8N
  rw [UInt8.lt_iff_toNat_lt, UInt8.toNat_ofNat', UInt8.toNat_ofNat']
  omega
theorem u8N_inj {a b : Int} (ha : 0 ≤ a ∧ a ≤ 255) (hb : 0 ≤ b ∧ b ≤ 255) (h : u8N a = u8N b) : a = b := by
  have := congrArg UInt8.toNat h
  unfold u8N at this
  rw [UInt8.toNat_ofNat', UInt8.toNat_ofNat'] at this
  omega
theorem less_num : ∀ (xs ys : List Int), xs.length = ys.length → InB xs → InB ys → Op.bytesLess (xs.map u8N) (ys.map u8N) = decide (numL xs < numL ys)
  | [], [], _, _, _ => by decide
  | [], _ :: _, h, _, _ => by simp at h
  | _ :: _, [], h, _, _ => by simp at h
  | x :: xs, y :: ys, h, hx, hy => by
    have hl : xs.length = ys.length := by simpa using h
    have ix : InB xs := fun z hz => hx z (by simp [hz])
    have iy : InB ys := fun z hz => hy z (by simp [hz])
    have ih := less_num xs ys hl ix iy
    have nx := numL_in xs ix
    have ny := numL_in ys iy
    have bx := hx x (by simp)
    have by_ := hy y (by simp)
    rw [List.map_cons, List.map_cons]
    show (decide (u8N x < u8N y) || (u8N x == u8N y && Op.bytesLess (xs.map u8N) (ys.map u8N))) = decide (x * 256 ^ xs.length + numL xs < y * 256 ^ ys.length + numL ys)
    rw [ih, ← hl]
    rw [← hl] at ny
    generalize (256 : Int) ^ xs.length = K at nx ny ⊢
    by_cases q : x < y
    · rw [decide_eq_true ((u8N_lt bx by_).2 q), Bool.true_or]
      have : (x + 1) * K ≤ y * K := Int.mul_le_mul_of_nonneg_right (by omega) (by omega)
      rw [Int.add_mul, Int.one_mul] at this
      exact (decide_eq_true (by omega)).symm
    · rw [decide_eq_false (fun c => q ((u8N_lt bx by_).1 c)), Bool.false_or]
      by_cases e : x = y
      · subst e
        rw [beq_self_eq_true, Bool.true_and, decide_eq_decide]
        omega
      · have : (y + 1) * K ≤ x * K := Int.mul_le_mul_of_nonneg_right (by omega) (by omega)
        rw [Int.add_mul, Int.one_mul] at this
        rw [show (u8N x == u8N y) = false from by rw [beq_eq_false_iff_ne]; exact fun c => e (u8N_inj bx by_ c), Bool.false_and]
        exact (decide_eq_false (by omega)).symm
theorem map_inj : ∀ (xs ys : List Int), InB xs → InB ys → xs.map u8N = ys.map u8N → xs = ys
  | [], [], _, _, _ => rfl
  | [], _ :: _, _, _, h => by simp at h
  | _ :: _, [], _, _, h => by simp at h
  | x :: xs, y :: ys, hx, hy, h => by
    rw [List.map_cons, List.map_cons] at h
    injection h with h1 h2
    rw [u8N_inj (hx x (by simp)) (hy y (by simp)) h1, map_inj xs ys (fun z hz => hx z (by simp [hz])) (fun z hz => hy z (by simp [hz])) h2]
def strA (h p : Int) : Str := (bytesA h p).map u8N
theorem bytesA_in {h p : Int} (hh : U32 h) (hm : mayA h p = true) : InB (bytesA h p) := by
  have hmm := (mayA_iff h p).1 hm
  unfold U32 at hh
  unfold InB bytesA
  intro x hx
  simp only [List.mem_cons, List.mem_nil_iff, or_false] at hx
  omega
theorem bytesA_num {h p : Int} (hh : U32 h) (hm : mayA h p = true) : numL (bytesA h p) = h * 65536 + p := by
  have hmm := (mayA_iff h p).1 hm
  unfold U32 at hh
  unfold bytesA
  simp only [numL, List.length_cons, List.length_nil]
  simp only [Nat.reduceAdd, Int.reducePow]
  omega
theorem strA_less {h1 p1 h2 p2 : Int} (u1 : U32 h1) (u2 : U32 h2) (m1 : mayA h1 p1 = true) (m2 : mayA h2 p2 = true) : Op.bytesLess (mk (strA h1 p1)).toList (mk (strA h2 p2)).toList = decide (cmpA h1 p1 h2 p2 < 0) := by
  rw [Go.ByteArray.toList_eq, Go.ByteArray.toList_eq, mk_data, mk_data]
  unfold strA
  rw [less_num (bytesA h1 p1) (bytesA h2 p2) rfl (bytesA_in u1 m1) (bytesA_in u2 m2), bytesA_num u1 m1, bytesA_num u2 m2, decide_eq_decide]
  have q1 := (mayA_iff h1 p1).1 m1
  have q2 := (mayA_iff h2 p2).1 m2
  have a := cmpA_cases h1 p1 h2 p2
  omega
theorem bytesA_inj {h1 p1 h2 p2 : Int} (u1 : U32 h1) (u2 : U32 h2) (m1 : mayA h1 p1 = true) (m2 : mayA h2 p2 = true) (e : bytesA h1 p1 = bytesA h2 p2) : h1 = h2 ∧ p1 = p2 := by
  have n1 := bytesA_num u1 m1
  rw [e, bytesA_num u2 m2] at n1
  have q1 := (mayA_iff h1 p1).1 m1
  have q2 := (mayA_iff h2 p2).1 m2
  omega
theorem strA_same {h1 p1 h2 p2 : Int} (u1 : U32 h1) (u2 : U32 h2) (m1 : mayA h1 p1 = true) (m2 : mayA h2 p2 = true) : ((mk (strA h1 p1)).toList == (mk (strA h2 p2)).toList) = decide (cmpA h1 p1 h2 p2 = 0) := by
  rw [Go.ByteArray.toList_eq, Go.ByteArray.toList_eq, mk_data, mk_data, Bool.eq_iff_iff, beq_iff_eq, decide_eq_true_iff]
  constructor
  · intro e
    obtain ⟨rfl, rfl⟩ := bytesA_inj u1 u2 m1 m2 (map_inj _ _ (bytesA_in u1 m1) (bytesA_in u2 m2) e)
    exact cmpA_self _ _
  · intro e
    have a := cmpA_cases h1 p1 h2 p2
    obtain ⟨rfl, rfl⟩ : h1 = h2 ∧ p1 = p2 := by omega
    rfl
theorem conv_six {w : World} {g : Nat} {h p : Int} (hg : w.heap[g]? = some (.cells ((bytesA h p).map (Value.int .u8)).toArray 5 (0, 0))) : (convert 38 9 (.slice (some ⟨g, 0, none⟩) 6 6)).run Tryd.prog w = .ok (.string (mk (strA h p))) w :=
  run_convert_bytes_arg (P := Tryd.prog) w 38 5 Tryd.underlying38 Tryd.underlying5 g 0 6 6 (bytesA h p) rfl (fun i hi => by
    have hc := cell_cellsN hg i (by simp [bytesA]; omega)
    rw [show 0 + i = i by omega, hc]
    match i, hi with
    | 0, _ => rfl
    | 1, _ => rfl
    | 2, _ => rfl
    | 3, _ => rfl
    | 4, _ => rfl
    | 5, _ => rfl) 9 Tryd.underlying9
end Go.Proofs.YtjbhcaifmgbpgaaDoor.Ad
