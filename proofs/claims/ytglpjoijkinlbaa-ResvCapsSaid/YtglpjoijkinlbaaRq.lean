/-
  ResvCount's row: limits that came in, read. No condition.
-/
import Derived.Test.YtglpjoijkinlbaaRn
import Derived.Test.YtglpjoijkinlbaaOp
namespace Go.Proofs.Ytglpjoijkinlbaa.Rv
open Go.RowKit Go.Maps
set_option linter.unusedVariables false
theorem wf_bd {k : IntKind} {x lo hi : Int} (h : (Lit.int k x).wf = true) (h1 : lo ≤ k.min) (h2 : k.max ≤ hi) : lo ≤ x ∧ x ≤ hi := by
  simp [Lit.wf] at h
  omega
open Go.Proofs.YtglpjoijkinlbaaW.PrintWords in
def dLim : Kd LimV := Kd.pair (Kd.int .i64) (Kd.pair (Kd.int .i64) (Kd.pair (Kd.int .i64) (Kd.pair (Kd.int .i64) (Kd.pair (Kd.int .i64) (Kd.int .i64)))))
theorem opens_Lim : Op.Opens Try.prog 23 dLim (fun _ => True) :=
  Op.opens_mono (Op.opens_struct Try.underlying23 (by kernel_rfl)
    (Op.opensF_cons rfl (by kernel_rfl) (Op.opens_int Try.underlying3)
      (Op.opensF_cons rfl (by kernel_rfl) (Op.opens_int Try.underlying3)
        (Op.opensF_cons rfl (by kernel_rfl) (Op.opens_int Try.underlying3)
          (Op.opensF_cons rfl (by kernel_rfl) (Op.opens_int Try.underlying3)
            (Op.opensF_cons rfl (by kernel_rfl) (Op.opens_int Try.underlying3)
              (Op.opensF_one rfl (by kernel_rfl) (Op.opens_int Try.underlying3))))))))
    (fun y h => trivial)
theorem lim_cells_of {w : World} {cs : Array Value} {x : LimV} (h : dLim.K w x (Value.agg cs).cells.toList) : cs = #[.int .i64 x.1, .int .i64 x.2.1, .int .i64 x.2.2.1, .int .i64 x.2.2.2.1, .int .i64 x.2.2.2.2.1, .int .i64 x.2.2.2.2.2] := by
  obtain ⟨_, _, h, rfl, _, _, rfl, rfl, _, _, rfl, rfl, _, _, rfl, rfl, _, _, rfl, rfl, rfl⟩ := h
  exact Array.toList_inj.1 h
theorem count_row (cs : Array Value) (x : LimV) (n : Int) (one : Bool) (w : World) (hr : dLim.K w x (Value.agg cs).cells.toList) (hw : True) (hn : (Lit.int .u8 n).wf = true) :
    Calls Try.prog 5 #[.agg cs, .int .u8 n, .bool one] w fun e w' => e = .returned (.bool true) ∧ Below w.heap.size w w' := by
  obtain rfl := lim_cells_of hr
  exact count_calls w x.1 x.2.1 x.2.2.1 x.2.2.2.1 x.2.2.2.2.1 x.2.2.2.2.2 n one (wf_bd hn (by decide) (by decide))
end Go.Proofs.Ytglpjoijkinlbaa.Rv
