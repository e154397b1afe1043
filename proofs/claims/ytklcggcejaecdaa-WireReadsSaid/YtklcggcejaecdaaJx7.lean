-- Out of handprint.py, a program of this session that turns the kit's print: not the kit's print itself. Lean checks it.
import Derived.Test.YtklcggcejaecdaaJx0
namespace Go.Proofs.Ytklcggcejaecdaa.J
open Go.RowKit Go.Proofs.YtklcggcejaecdaaW.PrintWords Go.Proofs.YtklcggcejaecdaaW.PrintLast Go.Proofs.YtklcggcejaecdaaW.PrintMore
attribute [local go_sem] max2_int min2_int max_two min_two max_three min_three max_four min_four   -- for this text's walks alone
set_option linter.unusedVariables false
set_option linter.unusedSimpArgs false

/-! ### embrasureref01_Get: function 38 -/
def embrasureref01_Get.f (l0 : List Int) : Option (Int × Int × Int) := if ∀ x ∈ l0, 0 ≤ x ∧ x ≤ 255 then some (Go.Proofs.Ytklcggcejaecdaa.Uv.getI l0) else none
theorem embrasureref01_Get.calls (A0 : Option Addr) (c0 : Nat) (l0 : List Int) (r1 r2 r3 : Int) (w : World) (hr0 : Kd.C (Kd.int .u8) w A0 l0.length l0) (hc0 : l0.length ≤ c0) (h : embrasureref01_Get.f l0 = some (r1, r2, r3)) :
    Calls Try.prog 38 #[.slice A0 l0.length c0] w fun e w' => e = .returned (.tuple #[.int .u64 r1, .int .i64 r2, .int .i64 r3]) ∧ Below w.heap.size w w' := by
  unfold embrasureref01_Get.f at h
  by_cases hc : ∀ x ∈ l0, 0 ≤ x ∧ x ≤ 255
  · rw [if_pos hc] at h
    injection h with h
    obtain ⟨k, hk⟩ := (Go.Proofs.Ytklcggcejaecdaa.Uv.rget_yes l0 hc).rounds
    rw [h] at hk
    exact (Go.Proofs.Ytklcggcejaecdaa.H.embrasureref01_Get.calls k A0 c0 l0 _ _ _ w hr0 hc0 hk).mono fun e w' ⟨h1, h2⟩ => ⟨h1, h2.below⟩
  · rw [if_neg hc] at h; cases h

/-! ### embrasureref03_FromBytes: function 39 -/
def embrasureref03_FromBytes.f (l0 : List Int) : Option (Int × Int × Int) := if ∀ x ∈ l0, 0 ≤ x ∧ x ≤ 255 then some (Go.Proofs.Ytklcggcejaecdaa.H.addrV l0) else none
theorem embrasureref03_FromBytes.calls (A0 : Option Addr) (c0 : Nat) (l0 : List Int) (r1 r2 r3 : Int) (w : World) (hr0 : Kd.C (Kd.int .u8) w A0 l0.length l0) (hc0 : l0.length ≤ c0) (h : embrasureref03_FromBytes.f l0 = some (r1, r2, r3)) :
    Calls Try.prog 39 #[.slice A0 l0.length c0] w fun e w' => e = .returned (.tuple #[.agg #[.int .u32 r1, .int .i64 r2], .int .i64 r3]) ∧ Below w.heap.size w w' := by
  unfold embrasureref03_FromBytes.f at h
  by_cases hc : ∀ x ∈ l0, 0 ≤ x ∧ x ≤ 255
  · rw [if_pos hc] at h
    injection h with h
    exact Go.Proofs.Ytklcggcejaecdaa.H.embrasureref03_FromBytes.calls A0 c0 l0 r1 r2 r3 w hr0 hc0 (by unfold Go.Proofs.Ytklcggcejaecdaa.H.embrasureref03_FromBytes.f; rw [if_pos hc, h])
  · rw [if_neg hc] at h; cases h

/-! ### embrasureref02_Get: function 40 -/
def embrasureref02_Get.f (l0 : List Int) : Option (List Int × Int × Int) := if (∀ x ∈ l0, 0 ≤ x ∧ x ≤ 255) ∧ l0.length ≤ 1000000000 then some (Go.Proofs.Ytklcggcejaecdaa.Fr.getF l0) else none
theorem embrasureref02_Get.calls (A0 : Option Addr) (c0 : Nat) (l0 : List Int) (r1 : List Int) (r2 r3 : Int) (w : World) (hr0 : Kd.C (Kd.int .u8) w A0 l0.length l0) (hc0 : l0.length ≤ c0) (h : embrasureref02_Get.f l0 = some (r1, r2, r3)) :
    Calls Try.prog 40 #[.slice A0 l0.length c0] w fun e w' => ∃ v0_ : Value, e = .returned (.tuple #[v0_, .int .i64 r2, .int .i64 r3]) ∧ Kd.R (Kd.int .u8) 5 w' w.heap.size (fun _ => True) v0_ r1 ∧ Below w.heap.size w w' := by
  unfold embrasureref02_Get.f at h
  by_cases hc : (∀ x ∈ l0, 0 ≤ x ∧ x ≤ 255) ∧ l0.length ≤ 1000000000
  · rw [if_pos hc] at h
    injection h with h
    obtain ⟨k, hk⟩ := (Go.Proofs.Ytklcggcejaecdaa.Fr.rfget_yes l0 hc.1 hc.2).rounds
    rw [h] at hk
    exact Go.Proofs.Ytklcggcejaecdaa.H.embrasureref02_Get.calls k A0 c0 l0 _ _ _ w hr0 hc0 hk
  · rw [if_neg hc] at h; cases h

end Go.Proofs.Ytklcggcejaecdaa.J
