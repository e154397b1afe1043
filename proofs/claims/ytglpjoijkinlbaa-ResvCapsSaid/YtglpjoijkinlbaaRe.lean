/-
  resv: till when a peer has a reservation. Conditions: numbers are of their kinds.
-/
import Derived.Test.YtglpjoijkinlbaaRc
namespace Go.Proofs.Ytglpjoijkinlbaa.Rv
open Go.RowKit Go.Maps Go.Shelf Go.Proofs.YtglpjoijkinlbaaW.PrintWords Go.Proofs.YtglpjoijkinlbaaW.PrintLast Go.Proofs.YtglpjoijkinlbaaW.PrintMore
set_option linter.unusedVariables false
set_option linter.unusedSimpArgs false
attribute [local go_sem] Oper.semAt_some
theorem zeroH (w : World) : (zeroValue 38).run Try.prog w = .ok (.agg (heldC (0, 0, 0))) w := by kernel_rfl
def I64 (p : Int) : Prop := -9223372036854775808 ≤ p ∧ p ≤ 9223372036854775807
theorem key_of {p : Int} (h : I64 p) : keyOf Try.prog 3 (.int .i64 p) = some (key p) := keyOf_int_mk Try.underlying3 (by obtain ⟨h1, h2⟩ := h; simp [Lit.wf, IntKind.min, IntKind.max, IntKind.signed, IntKind.bits]; omega)
set_option maxRecDepth 100000 in
set_option maxHeartbeats 4000000 in
theorem has_calls (W : World) (g b n : Nat) (l : LimV) (L : List HeldP) (now t p : Int) (h : TabAt W g b n l L now) (hp : I64 p) :
    Calls Try.prog 12 #[.pointer (some ⟨g, 0, none⟩), .int .i64 t, .int .i64 p] W fun e w' => e = .returned (.tuple #[.int .i64 (getL (overL L (onT now t)) p).2.2, .bool (hasL (overL L (onT now t)) p)]) ∧ TabAt w' g b n l (overL L (onT now t)) (onT now t) ∧ Touch g b W w' := by
  obtain ⟨T, hT⟩ : ∃ T, onT now t = T := ⟨_, rfl⟩
  have K := on_calls W g b n l L now t h
  rw [hT] at K ⊢
  have K := Lib.hid K
  have hkey := key_of hp
  obtain ⟨L', hL'⟩ : ∃ L', overL L T = L' := ⟨_, rfl⟩
  rw [hL'] at K ⊢
  obtain ⟨⟨gp, gh, gu⟩, hgp⟩ : ∃ q, getL L' p = q := ⟨_, rfl⟩
  rw [hgp]
  clear h hT hL'
  go_enter Try.func12, Try.ntmps12
  go_upto_region 2 with (go_at_call 13; refine K.out.mono ?_; rintro e w1 ⟨rfl, h1, ht1⟩)
  obtain ⟨c0, c1, c3, c6, c7⟩ := tab_cells h1.1
  have hown := h1.2
  go_upto_region 3 with (at_lookup; refine wpList_lookup_own_ok _ rfl _ _ 49 rfl 3 38 K3 Try.underlying49 heldR (zeroH _) (encD (0, 0, 0)) [] (heldR_mk (0, 0, 0)) b n _ rfl hown _ _ rfl hkey ?_; intro v ps hv; rw [enc_has, enc_at] at *; obtain ⟨q, rfl, hq⟩ := heldR_inv hv; have hq := encD_inj (congrArg Prod.fst hq); rw [hgp] at hq; subst hq; dsimp only [heldC])
  obtain ⟨X, hX⟩ : ∃ X, w1.alloc (.cells #[.int .i64 gp, .int .u32 gh, .int .i64 gu] 38) = X := ⟨_, rfl⟩
  have hgX : w1.grownBy X none := by rw [← hX]; exact World.grownBy_alloc w1 _ none
  have hcl := new_cellsN w1 38 #[.int .i64 gp, .int .u32 gh, .int .i64 gu]
  rw [hX] at hcl ⊢
  obtain ⟨f0, f1, f2⟩ := held_cells (q := (gp, gh, gu)) hcl
  clear hX hcl c0 c1 c3 c6 c7 hown
  go_wp2
  go_ret2
  exact ⟨rfl, h1.step hgX, ht1.trans (Touch.grown hgX)⟩
end Go.Proofs.Ytglpjoijkinlbaa.Rv
