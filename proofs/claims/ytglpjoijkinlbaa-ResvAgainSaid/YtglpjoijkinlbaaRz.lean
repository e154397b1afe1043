/-
  ResvAgain's row. No condition.
-/
import Derived.Test.YtglpjoijkinlbaaRy
import Derived.Test.YtglpjoijkinlbaaRq
namespace Go.Proofs.Ytglpjoijkinlbaa.Rv
open Go.RowKit Go.Maps
set_option linter.unusedVariables false
theorem again_row (cs : Array Value) (x : LimV) (n wt : Int) (w : World) (hr : dLim.K w x (Value.agg cs).cells.toList) (hw : True) (hn : (Lit.int .u8 n).wf = true) (hn2 : (Lit.int .u8 wt).wf = true) :
    Calls Try.prog 4 #[.agg cs, .int .u8 n, .int .u8 wt] w fun e w' => e = .returned (.bool true) ∧ Below w.heap.size w w' := by
  obtain rfl := lim_cells_of hr
  exact again_calls w x.1 x.2.1 x.2.2.1 x.2.2.2.1 x.2.2.2.2.1 x.2.2.2.2.2 n wt (wf_bd hn (by decide) (by decide)) (wf_bd hn2 (by decide) (by decide))
end Go.Proofs.Ytglpjoijkinlbaa.Rv
