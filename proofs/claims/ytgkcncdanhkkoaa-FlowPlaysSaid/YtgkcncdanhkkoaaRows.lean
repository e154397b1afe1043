/-
  No cell of these rows narrows 'for every input' (looked for: loops, veiled, ifaces, maps, wideKeys, modest, calm, conditions, laid).
  DERIVED. THE GIVEN ROWS OF THIS SEAT. 5 by the template 'for every input the law returns true; each argument reads behind the call as it read before'; 0 by the template 'total and deterministic' (their statements: YtgkcncdanhkkoaaTotals.lean).
  GIVEN WITH THE SEED: the statements are not yours to turn. If you find one false, say at which input.
  Laid BY PROGRAM, IN A SANDBOX (cutbox-rows.mjs): the forced cells as the released guide's own fill.sh prints them over the translation fff31058466c6848… (all of the seat's roots in one cut). By AI agents, Wed Nov 11 2026. No macro, syntax, notation, axiom, sorry.
-/
import Derived.Test.YtgkcncdanhkkoaaChecked
import GoSem.Claim
import GoSem.ClaimJoined
import GoSem.ClaimMapViews
import Derived.JoinedTies
import Derived.KernelRfl
namespace Go.Proofs.Ytgkcncdanhkkoaa
/- THE CELL 'sum', in the pinned program and in every row, IS THE sha256 OF THE DUMP (.gsa) THAT YtgkcncdanhkkoaaProg.lean LOADS. Nothing in Lean hashes anything: it is a label: what it is worth is what the hold of that sum in a sandbox is worth. -/
noncomputable def Try.pinned : Pinned := { name := "ytgkcncdanhkkoaa", sum := "fff31058466c6848927835e1703910d8957f02b256a2bf0dfc090acdd5b4133b", checked := Try.checked }
namespace Rows
def none {H : Type} : Left H := { results := [], args := [] }

/-- 'embrasurelaw16.FlowOrder': WHATEVER THE INPUT: true; the input reads as it did. -/
def flowOrderSpec : ChangeSpec := { name := "flowOrder", fn := fun _ => fun
  | [d1, d2] => { results := [.lit (.bool true)], args := [d1, d2] }
  | _ => none }
def flowOrderRow : OpenClaim := { program := "ytgkcncdanhkkoaa", sum := "fff31058466c6848927835e1703910d8957f02b256a2bf0dfc090acdd5b4133b", func := "embrasure/embrasurelaw16.FlowOrder", spec := "flowOrder", apart := false }
def FlowOrderSaid : Prop := flowOrderRow.holds Try.pinned (OpenSpec.ofChange flowOrderSpec)

/-- ITS FALSE NEIGHBOUR: 'it returns false'. Refute it at one input. -/
def flowOrderWrong : ChangeSpec := { name := "flowOrder", fn := fun _ => fun
  | [d1, d2] => { results := [.lit (.bool false)], args := [d1, d2] }
  | _ => none }
def FlowOrderWrongFalsely : Prop := flowOrderRow.holds Try.pinned (OpenSpec.ofChange flowOrderWrong)

/-- 'embrasurelaw16.FlowAll': WHATEVER THE INPUT: true; the input reads as it did. -/
def flowAllSpec : ChangeSpec := { name := "flowAll", fn := fun _ => fun
  | [d1, d2] => { results := [.lit (.bool true)], args := [d1, d2] }
  | _ => none }
def flowAllRow : OpenClaim := { program := "ytgkcncdanhkkoaa", sum := "fff31058466c6848927835e1703910d8957f02b256a2bf0dfc090acdd5b4133b", func := "embrasure/embrasurelaw16.FlowAll", spec := "flowAll", apart := false }
def FlowAllSaid : Prop := flowAllRow.holds Try.pinned (OpenSpec.ofChange flowAllSpec)

/-- ITS FALSE NEIGHBOUR: 'it returns false'. Refute it at one input. -/
def flowAllWrong : ChangeSpec := { name := "flowAll", fn := fun _ => fun
  | [d1, d2] => { results := [.lit (.bool false)], args := [d1, d2] }
  | _ => none }
def FlowAllWrongFalsely : Prop := flowAllRow.holds Try.pinned (OpenSpec.ofChange flowAllWrong)

/-- 'embrasurelaw16.FlowWindow': WHATEVER THE INPUT: true; the input reads as it did. -/
def flowWindowSpec : ChangeSpec := { name := "flowWindow", fn := fun _ => fun
  | [d1, d2] => { results := [.lit (.bool true)], args := [d1, d2] }
  | _ => none }
def flowWindowRow : OpenClaim := { program := "ytgkcncdanhkkoaa", sum := "fff31058466c6848927835e1703910d8957f02b256a2bf0dfc090acdd5b4133b", func := "embrasure/embrasurelaw16.FlowWindow", spec := "flowWindow", apart := false }
def FlowWindowSaid : Prop := flowWindowRow.holds Try.pinned (OpenSpec.ofChange flowWindowSpec)

/-- ITS FALSE NEIGHBOUR: 'it returns false'. Refute it at one input. -/
def flowWindowWrong : ChangeSpec := { name := "flowWindow", fn := fun _ => fun
  | [d1, d2] => { results := [.lit (.bool false)], args := [d1, d2] }
  | _ => none }
def FlowWindowWrongFalsely : Prop := flowWindowRow.holds Try.pinned (OpenSpec.ofChange flowWindowWrong)

/-- 'embrasurelaw16.FlowPlays': WHATEVER THE INPUT: true; the input reads as it did. -/
def flowPlaysSpec : ChangeSpec := { name := "flowPlays", fn := fun _ => fun
  | [d1, d2] => { results := [.lit (.bool true)], args := [d1, d2] }
  | _ => none }
def flowPlaysRow : OpenClaim := { program := "ytgkcncdanhkkoaa", sum := "fff31058466c6848927835e1703910d8957f02b256a2bf0dfc090acdd5b4133b", func := "embrasure/embrasurelaw16.FlowPlays", spec := "flowPlays", apart := false }
def FlowPlaysSaid : Prop := flowPlaysRow.holds Try.pinned (OpenSpec.ofChange flowPlaysSpec)

/-- ITS FALSE NEIGHBOUR: 'it returns false'. Refute it at one input. -/
def flowPlaysWrong : ChangeSpec := { name := "flowPlays", fn := fun _ => fun
  | [d1, d2] => { results := [.lit (.bool false)], args := [d1, d2] }
  | _ => none }
def FlowPlaysWrongFalsely : Prop := flowPlaysRow.holds Try.pinned (OpenSpec.ofChange flowPlaysWrong)

/-- 'embrasurelaw16.FlowComes': WHATEVER THE INPUT: true; the input reads as it did. -/
def flowComesSpec : ChangeSpec := { name := "flowComes", fn := fun _ => fun
  | [d1, d2, d3] => { results := [.lit (.bool true)], args := [d1, d2, d3] }
  | _ => none }
def flowComesRow : OpenClaim := { program := "ytgkcncdanhkkoaa", sum := "fff31058466c6848927835e1703910d8957f02b256a2bf0dfc090acdd5b4133b", func := "embrasure/embrasurelaw16.FlowComes", spec := "flowComes", apart := false }
def FlowComesSaid : Prop := flowComesRow.holds Try.pinned (OpenSpec.ofChange flowComesSpec)

/-- ITS FALSE NEIGHBOUR: 'it returns false'. Refute it at one input. -/
def flowComesWrong : ChangeSpec := { name := "flowComes", fn := fun _ => fun
  | [d1, d2, d3] => { results := [.lit (.bool false)], args := [d1, d2, d3] }
  | _ => none }
def FlowComesWrongFalsely : Prop := flowComesRow.holds Try.pinned (OpenSpec.ofChange flowComesWrong)

/- THE SECOND FORM. 'bulk': how many values and letters a reading holds, each counted each time it is reached (what is shared counts as often as it is met; a slice's spare places count too). A statement '..UptoSaid' is the law's where the arguments, and the package variables that the reading takes, are together of bulk at most 1048576: NARROWER than '..Said'. Prove '..Said' where nothing that the law and all that it calls make is longer than what came in: it says more and counts as full. Else prove '..UptoSaid'. A law counts once. -/
mutual
def uptoBulk {H : Type} : DataW H → Nat
  | .lit (.string bytes) => bytes.length + 1
  | .lit _ => 1
  | .nil => 1
  | .ptr d => uptoBulk d + 1
  | .slice elems spare => uptoBulkAll elems + uptoBulkAll spare + 1
  | .agg parts => uptoBulkAll parts + 1
  | .iface _ d => uptoBulk d + 1
  | .map entries => uptoBulkEntries entries + 1
  | .held _ => 1
def uptoBulkAll {H : Type} : List (DataW H) → Nat
  | [] => 0
  | d :: r => uptoBulk d + uptoBulkAll r
def uptoBulkEntries {H : Type} : List (Lit × DataW H) → Nat
  | [] => 0
  | x :: r => uptoBulkEntry x + uptoBulkEntries r
def uptoBulkEntry {H : Type} : Lit × DataW H → Nat
  | (.string bytes, d) => bytes.length + uptoBulk d + 1
  | (_, d) => uptoBulk d + 1
 end
def uptoSmall : (H : Type) → List (DataW H) → Bool := fun _ ds => decide (uptoBulkAll ds ≤ 1048576)
def OpenSpec.upto (s : _root_.Go.ChangeSpec) : _root_.Go.OpenSpec := { _root_.Go.OpenSpec.ofChange s with cond := some uptoSmall }

/-- 'embrasurelaw16.FlowOrder', WHERE WHAT IT READS IS OF BULK AT MOST 1048576: true; the input reads as it did. -/
def flowOrderUptoRow : OpenClaim := { program := "ytgkcncdanhkkoaa", sum := "fff31058466c6848927835e1703910d8957f02b256a2bf0dfc090acdd5b4133b", func := "embrasure/embrasurelaw16.FlowOrder", spec := "flowOrder", apart := false, narrowed := true }
def FlowOrderUptoSaid : Prop := flowOrderUptoRow.holds Try.pinned (OpenSpec.upto flowOrderSpec)

/-- 'embrasurelaw16.FlowAll', WHERE WHAT IT READS IS OF BULK AT MOST 1048576: true; the input reads as it did. -/
def flowAllUptoRow : OpenClaim := { program := "ytgkcncdanhkkoaa", sum := "fff31058466c6848927835e1703910d8957f02b256a2bf0dfc090acdd5b4133b", func := "embrasure/embrasurelaw16.FlowAll", spec := "flowAll", apart := false, narrowed := true }
def FlowAllUptoSaid : Prop := flowAllUptoRow.holds Try.pinned (OpenSpec.upto flowAllSpec)

/-- 'embrasurelaw16.FlowWindow', WHERE WHAT IT READS IS OF BULK AT MOST 1048576: true; the input reads as it did. -/
def flowWindowUptoRow : OpenClaim := { program := "ytgkcncdanhkkoaa", sum := "fff31058466c6848927835e1703910d8957f02b256a2bf0dfc090acdd5b4133b", func := "embrasure/embrasurelaw16.FlowWindow", spec := "flowWindow", apart := false, narrowed := true }
def FlowWindowUptoSaid : Prop := flowWindowUptoRow.holds Try.pinned (OpenSpec.upto flowWindowSpec)

/-- 'embrasurelaw16.FlowPlays', WHERE WHAT IT READS IS OF BULK AT MOST 1048576: true; the input reads as it did. -/
def flowPlaysUptoRow : OpenClaim := { program := "ytgkcncdanhkkoaa", sum := "fff31058466c6848927835e1703910d8957f02b256a2bf0dfc090acdd5b4133b", func := "embrasure/embrasurelaw16.FlowPlays", spec := "flowPlays", apart := false, narrowed := true }
def FlowPlaysUptoSaid : Prop := flowPlaysUptoRow.holds Try.pinned (OpenSpec.upto flowPlaysSpec)

/-- 'embrasurelaw16.FlowComes', WHERE WHAT IT READS IS OF BULK AT MOST 1048576: true; the input reads as it did. -/
def flowComesUptoRow : OpenClaim := { program := "ytgkcncdanhkkoaa", sum := "fff31058466c6848927835e1703910d8957f02b256a2bf0dfc090acdd5b4133b", func := "embrasure/embrasurelaw16.FlowComes", spec := "flowComes", apart := false, narrowed := true }
def FlowComesUptoSaid : Prop := flowComesUptoRow.holds Try.pinned (OpenSpec.upto flowComesSpec)

end Rows
end Go.Proofs.Ytgkcncdanhkkoaa
