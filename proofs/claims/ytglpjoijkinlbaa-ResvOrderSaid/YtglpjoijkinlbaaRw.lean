/-
  ResvOrder's row. No condition.
-/
import Derived.Test.YtglpjoijkinlbaaRv
import Derived.Test.YtglpjoijkinlbaaRq
namespace Go.Proofs.Ytglpjoijkinlbaa.Rv
open Go.RowKit Go.Maps
open Go.Proofs.YtglpjoijkinlbaaW.PrintWords in
theorem order_row (cs : Array Value) (x : LimV) (A : Option Addr) (c : Nat) (ps : List Int) (stop : Int) (w : World) (hr : dLim.K w x (Value.agg cs).cells.toList) (hw : True)
    (hr0 : Kd.C (Kd.int .u8) w A ps.length ps) (hc0 : ps.length ≤ c) (hy0 : ps.length * 1 ≤ 140737488351232) (hw0 : ∀ b ∈ ps, (Lit.int .u8 b).wf = true) (hn : (Lit.int .u8 stop).wf = true) :
    Calls Try.prog 6 #[.agg cs, .slice A ps.length c, .int .u8 stop] w fun e w' => e = .returned (.bool true) ∧ Below w.heap.size w w' := by
  obtain rfl := lim_cells_of hr
  exact order_calls w x.1 x.2.1 x.2.2.1 x.2.2.2.1 x.2.2.2.2.1 x.2.2.2.2.2 A c ps stop (wf_bd hn (by decide) (by decide)) hr0 hc0 (fun y hy => wf_bd (hw0 y hy) (by decide) (by decide))
end Go.Proofs.Ytglpjoijkinlbaa.Rv
