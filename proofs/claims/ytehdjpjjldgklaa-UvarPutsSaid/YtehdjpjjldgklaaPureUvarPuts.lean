/-
  Every number's bytes are the reference's, and are got again, whatever stands behind: the printed pure statement of UvarPuts. No condition.
-/
import Derived.Test.YtehdjpjjldgklaaPureUv
import Derived.Test.YtehdjpjjldgklaaHx2
import Derived.OpenShut
namespace Go.Proofs.Ytehdjpjjldgklaa.Pure
open Go.RowKit Go.Proofs.Ytehdjpjjldgklaa.H Go.Proofs.Ytehdjpjjldgklaa.Uv Go.Proofs.YtehdjpjjldgklaaW.PrintWords Go.Proofs.YtehdjpjjldgklaaW.PrintLast Go.Proofs.YtehdjpjjldgklaaW.PrintMore

theorem awake_yes : Ev (fun k => embrasurelaw01_awake.f k) true := by
  unfold embrasurelaw01_awake.f
  refine Ev.bind (put_yes 300 (by omega) (by omega)) (Ev.bind (get_yes [128] (by decide)) (Ev.bind (get_yes [128, 0] (by decide)) ?_))
  rw [show putI 300 = [172, 2] by decide, show getI [128] = (0, 0, 2) by decide, show getI [128, 0] = (0, 0, 3) by decide]
  refine Ev_if (by decide) (Ev_if (by decide) (Ev_if (by decide) (Ev_if (by decide) (Ev_if (by decide) (Ev_if (by decide) (Ev_if (by decide) (Ev.bind (len_yes 300 (by omega) (by omega)) ?_)))))))
  rw [show lenI 300 = 2 by decide]
  exact Ev.now _

theorem UvarPuts : embrasurelaw01_UvarPuts.Pure := by
  intro v b hv _ _ hb
  have hvb := bounds_u64 hv
  have hbb : ∀ x ∈ b, 0 ≤ x ∧ x ≤ 255 := fun x hx => bounds_u8 (hb x hx)
  refine Ev.rounds ?_
  unfold embrasurelaw01_UvarPuts.f
  refine Ev.bind awake_yes (Ev_if rfl ?_)
  by_cases hl : (b.length : Int) > 64
  · exact Ev_if hl (Ev.now _)
  refine Ev_else hl ?_
  have h9 := putI_len_le v
  refine Ev.bind (put_yes v hvb.1 hvb.2) (Ev.bind (rput_yes v hvb.1) (Ev.bind (same_yes _ _ (by omega)) (Ev_if (by simp) ?_)))
  by_cases hm : v ≤ 9223372036854775807
  · refine Ev.bind (len_yes v hvb.1 hm) ?_
    rw [← putI_length v hvb.1 hm, bne_self_eq_false]
    refine Ev.step (f := fun k => (uvar_Get.f k (putI v ++ b)).bind fun bt159 => (if bt159.2.2 = 0 then (if bt159.1 = v then (some (bt159.2.1 == ((putI v).length : Int))) else (some false)) else (some false))) (fun k => ?_) ?_
    · simp only [embrasurelaw01_UvarPuts.j0, Option.bind_some, List.nil_append, List.length_nil, Nat.zero_add]
      rw [if_neg (by decide), if_neg (by omega), if_pos (by omega), if_pos (by omega)]
    · refine Ev.bind (get_yes (putI v ++ b) ?_) ?_
      · intro x hx
        rcases List.mem_append.1 hx with hx | hx
        · exact putI_bytes v hvb.1 x hx
        · exact hbb x hx
      · rw [getI_put v b hvb.1 hm]
        refine Ev_if rfl (Ev_if rfl ?_)
        rw [BEq.rfl]
        exact Ev.now _
  · refine Ev.bind (len_no v (by omega) hvb.2) ?_
    rw [putI_none v hm]
    refine Ev.step (f := fun _ => some true) (fun k => ?_) (Ev.now _)
    simp only [embrasurelaw01_UvarPuts.j0]
    rw [if_neg (by decide), if_pos (by omega)]
    rfl

end Go.Proofs.Ytehdjpjjldgklaa.Pure
