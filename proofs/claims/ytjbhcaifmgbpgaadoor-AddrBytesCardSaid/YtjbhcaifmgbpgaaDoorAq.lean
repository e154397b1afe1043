/-
  addr: the rows: the start that meets the condition, and what the condition gives a walk.
-/
import Derived.Test.YtjbhcaifmgbpgaaDoorAp
import Derived.Test.YtjbhcaifmgbpgaaDoorRows
import Derived.ProofKit
import Derived.LaidMore
import Derived.OpenShut
import Derived.Stop.Joined
import Derived.Stop.LaidErr
import Derived.Lib.LaidTab
import Derived.HandedShaped
import Derived.MakeChecks
import Derived.Shelf.Vars
namespace Go.Proofs.YtjbhcaifmgbpgaaDoor.Ad
open Go Go.ChangeShapes Go.WideShapes Go.ChangeAt Go.WideMaps Go.WideElems Go.RowKit
def dataCells : DataW Unit → Array Value
  | .agg l => (l.map fun d => match d with | .lit (.int k n) => Value.int k n | _ => undef).toArray
  | _ => #[]
/-- The door's own heap, with the table of utf8's first bytes laid beside it. -/
noncomputable def doorW (os : Os) : World :=
  let w0 := World.doorLaid Tryd.prog 72 os
  { w0 with heap := w0.heap.modify 4 fun
      | .cells _ t f => .cells (dataCells Go.Pinned.utf8First) t f
      | o => o }
set_option maxRecDepth 100000 in
theorem door_met (os : Os) (args : Array Value) : laidMetH Tryd.prog Rows.addrReadsRow.laid ((doorW os).forCall (fun _ _ => 0) ⟨#[], args, []⟩).memory :=
  laidMetH_of_parts3 (fuel := 8) (laidMet_of_run' 8 (by kernel_rfl) (by kernel_rfl)) (by kernel_rfl) (by kernel_rfl)
theorem gPow : Tryd.prog.globalNamed "internal/strconv.uint64pow10" = some 0 := by kernel_rfl
theorem gPowT : (Tryd.prog.globals[0]?).map (·.type) = some 95 := by kernel_rfl
theorem gRng : Tryd.prog.globalNamed "strconv.ErrRange" = some 3 := by kernel_rfl
theorem gRngT : (Tryd.prog.globals[3]?).map (·.type) = some 66 := by kernel_rfl
theorem gSyn : Tryd.prog.globalNamed "strconv.ErrSyntax" = some 2 := by kernel_rfl
theorem gSynT : (Tryd.prog.globals[2]?).map (·.type) = some 66 := by kernel_rfl
theorem cellsU64 : Tryd.prog.cellsOf 78 = 1 := by kernel_rfl
theorem cellsPow : Tryd.prog.cellsOf 95 = 20 := by kernel_rfl
theorem cellsES : Tryd.prog.cellsOf 115 = 1 := by kernel_rfl
theorem cellsStr : Tryd.prog.cellsOf 9 = 1 := by kernel_rfl
theorem starES : "*" ++ "errors.errorString" = "*errors.errorString" := by decide
theorem rowES (u : TypeId) (h : Tryd.prog.typeName? 3 u = some "*errors.errorString") : u = 113 :=
  typeName_ptr_named (nm := "errors.errorString") (by rw [starES]; kernel_rfl) (by kernel_rfl) (by decide) u (by rw [starES]; exact h)
theorem env_of {W : World} (hL : laidMetH Tryd.prog Rows.addrReadsRow.laid W) (hsh : W.ShapedOpen Tryd.prog) : Env W := by
  rw [MakeChecks.laidMetH_plain _ _ _ (by kernel_rfl)] at hL
  have h2 := (laidMet.tail (laidMet.tail hL))
  have h4 := (laidMet.tail (laidMet.tail h2))
  refine ⟨Lib.tabIs_of_head gPow gPowT Tryd.underlying95 Tryd.underlying78 cellsU64 cellsPow h2, ?_, ?_, ?_⟩
  · obtain ⟨a, s, hv, _⟩ := laid_sentinel h4.tail gSyn gSynT Tryd.underlying66 rowES Tryd.underlying113 Tryd.underlying115 rfl rfl Tryd.underlying9 cellsES cellsStr
    exact ⟨_, _, hv⟩
  · obtain ⟨a, s, hv, _⟩ := laid_sentinel h4 gRng gRngT Tryd.underlying66 rowES Tryd.underlying113 Tryd.underlying115 rfl rfl Tryd.underlying9 cellsES cellsStr
    exact ⟨_, _, hv⟩
  · exact cell_of_shapedOpen_int (P := Tryd.prog) (g := 1) (t := 3) (zero := #[.int .i64 0]) hsh (of_decide_eq_true (by kernel_rfl)) (by kernel_rfl) rfl (by kernel_rfl) (by kernel_rfl) Tryd.underlying3
end Go.Proofs.YtjbhcaifmgbpgaaDoor.Ad
