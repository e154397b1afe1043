/-
  The number with which any bytes begin, or why there is none, is the reference's: the printed pure statement of UvarGets. No condition.
-/
import Derived.Test.YtehdjpjjldgklaaPureUv
import Derived.Test.YtehdjpjjldgklaaHx3
import Derived.OpenShut
namespace Go.Proofs.Ytehdjpjjldgklaa.Pure
open Go.RowKit Go.Proofs.Ytehdjpjjldgklaa.H Go.Proofs.Ytehdjpjjldgklaa.Uv Go.Proofs.YtehdjpjjldgklaaW.PrintWords Go.Proofs.YtehdjpjjldgklaaW.PrintLast Go.Proofs.YtehdjpjjldgklaaW.PrintMore

theorem awake_yes : Ev (fun k => embrasurelaw01_awake.f k) true := by
  unfold embrasurelaw01_awake.f
  refine Ev.bind (put_yes 300 (by omega) (by omega)) (Ev.bind (get_yes [128] (by decide)) (Ev.bind (get_yes [128, 0] (by decide)) ?_))
  rw [show putI 300 = [172, 2] by decide, show getI [128] = (0, 0, 2) by decide, show getI [128, 0] = (0, 0, 3) by decide]
  refine Ev_if (by decide) (Ev_if (by decide) (Ev_if (by decide) (Ev_if (by decide) (Ev_if (by decide) (Ev_if (by decide) (Ev_if (by decide) (Ev.bind (len_yes 300 (by omega) (by omega)) ?_)))))))
  rw [show lenI 300 = 2 by decide]
  exact Ev.now _

theorem UvarGets : embrasurelaw01_UvarGets.Pure := by
  intro b _ _ hb
  have hbb : ∀ x ∈ b, 0 ≤ x ∧ x ≤ 255 := fun x hx => bounds_u8 (hb x hx)
  refine Ev.rounds ?_
  unfold embrasurelaw01_UvarGets.f
  refine Ev.bind awake_yes (Ev_if rfl ?_)
  by_cases hl : (b.length : Int) > 4096
  · exact Ev_if hl (Ev.now _)
  refine Ev_else hl ?_
  refine Ev.bind (get_yes b hbb) (Ev.bind (rget_yes b hbb) (Ev_if rfl (Ev_if rfl ?_)))
  rw [BEq.rfl]
  exact Ev.now _

end Go.Proofs.Ytehdjpjjldgklaa.Pure
