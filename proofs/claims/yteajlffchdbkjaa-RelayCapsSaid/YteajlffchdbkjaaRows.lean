/-
  No cell of these rows narrows 'for every input' (looked for: loops, veiled, ifaces, maps, wideKeys, modest, calm, conditions, laid).
  DERIVED. THE GIVEN ROWS OF THIS SEAT. 5 by the template 'for every input the law returns true; each argument reads behind the call as it read before'; 0 by the template 'total and deterministic' (their statements: YteajlffchdbkjaaTotals.lean).
  GIVEN WITH THE SEED: the statements are not yours to turn. If you find one false, say at which input.
  Laid BY PROGRAM, IN A SANDBOX (cutbox-rows.mjs): the forced cells as the released guide's own fill.sh prints them over the translation ea1e527b499533d2… (all of the seat's roots in one cut). By AI agents, Wed Nov 11 2026. No macro, syntax, notation, axiom, sorry.
-/
import Derived.Test.YteajlffchdbkjaaChecked
import GoSem.Claim
import GoSem.ClaimJoined
import GoSem.ClaimMapViews
import Derived.JoinedTies
import Derived.KernelRfl
namespace Go.Proofs.Yteajlffchdbkjaa
/- THE CELL 'sum', in the pinned program and in every row, IS THE sha256 OF THE DUMP (.gsa) THAT YteajlffchdbkjaaProg.lean LOADS. Nothing in Lean hashes anything: it is a label: what it is worth is what the hold of that sum in a sandbox is worth. -/
noncomputable def Try.pinned : Pinned := { name := "yteajlffchdbkjaa", sum := "ea1e527b499533d22a0c434d840146b03b63b00ac36ab6b6aef5eb9414fff8bd", checked := Try.checked }
namespace Rows
def none {H : Type} : Left H := { results := [], args := [] }

/-- 'embrasuretop.TopVouched': WHATEVER THE INPUT: true; the input reads as it did. -/
def topVouchedSpec : ChangeSpec := { name := "topVouched", fn := fun _ => fun
  | [d1, d2, d3] => { results := [.lit (.bool true)], args := [d1, d2, d3] }
  | _ => none }
def topVouchedRow : OpenClaim := { program := "yteajlffchdbkjaa", sum := "ea1e527b499533d22a0c434d840146b03b63b00ac36ab6b6aef5eb9414fff8bd", func := "embrasure/embrasuretop.TopVouched", spec := "topVouched", unfollowed := true, recurses := true, plainKeys := false, apart := false }
def TopVouchedSaid : Prop := topVouchedRow.holds Try.pinned (OpenSpec.ofChange topVouchedSpec)

/-- ITS FALSE NEIGHBOUR: 'it returns false'. Refute it at one input. -/
def topVouchedWrong : ChangeSpec := { name := "topVouched", fn := fun _ => fun
  | [d1, d2, d3] => { results := [.lit (.bool false)], args := [d1, d2, d3] }
  | _ => none }
def TopVouchedWrongFalsely : Prop := topVouchedRow.holds Try.pinned (OpenSpec.ofChange topVouchedWrong)

/-- 'embrasuretop.TopSpent': WHATEVER THE INPUT: true; the input reads as it did. -/
def topSpentSpec : ChangeSpec := { name := "topSpent", fn := fun _ => fun
  | [d1, d2, d3] => { results := [.lit (.bool true)], args := [d1, d2, d3] }
  | _ => none }
def topSpentRow : OpenClaim := { program := "yteajlffchdbkjaa", sum := "ea1e527b499533d22a0c434d840146b03b63b00ac36ab6b6aef5eb9414fff8bd", func := "embrasure/embrasuretop.TopSpent", spec := "topSpent", inPlace := ["maps.clone"], unfollowed := true, recurses := true, plainKeys := false, apart := false }
def TopSpentSaid : Prop := topSpentRow.holds Try.pinned (OpenSpec.ofChange topSpentSpec)

/-- ITS FALSE NEIGHBOUR: 'it returns false'. Refute it at one input. -/
def topSpentWrong : ChangeSpec := { name := "topSpent", fn := fun _ => fun
  | [d1, d2, d3] => { results := [.lit (.bool false)], args := [d1, d2, d3] }
  | _ => none }
def TopSpentWrongFalsely : Prop := topSpentRow.holds Try.pinned (OpenSpec.ofChange topSpentWrong)

/-- 'embrasurelaw25.RelayCaps': WHATEVER THE INPUT: true; the input reads as it did. -/
def relayCapsSpec : ChangeSpec := { name := "relayCaps", fn := fun _ => fun
  | [d1, d2, d3] => { results := [.lit (.bool true)], args := [d1, d2, d3] }
  | _ => none }
def relayCapsRow : OpenClaim := { program := "yteajlffchdbkjaa", sum := "ea1e527b499533d22a0c434d840146b03b63b00ac36ab6b6aef5eb9414fff8bd", func := "embrasure/embrasurelaw25.RelayCaps", spec := "relayCaps", inPlace := ["maps.clone"], unfollowed := true, recurses := true, plainKeys := false, apart := false }
def RelayCapsSaid : Prop := relayCapsRow.holds Try.pinned (OpenSpec.ofChange relayCapsSpec)

/-- ITS FALSE NEIGHBOUR: 'it returns false'. Refute it at one input. -/
def relayCapsWrong : ChangeSpec := { name := "relayCaps", fn := fun _ => fun
  | [d1, d2, d3] => { results := [.lit (.bool false)], args := [d1, d2, d3] }
  | _ => none }
def RelayCapsWrongFalsely : Prop := relayCapsRow.holds Try.pinned (OpenSpec.ofChange relayCapsWrong)

/-- 'embrasurelaw25.RelayNone': WHATEVER THE INPUT: true; the input reads as it did. -/
def relayNoneSpec : ChangeSpec := { name := "relayNone", fn := fun _ => fun
  | [d1, d2, d3] => { results := [.lit (.bool true)], args := [d1, d2, d3] }
  | _ => none }
def relayNoneRow : OpenClaim := { program := "yteajlffchdbkjaa", sum := "ea1e527b499533d22a0c434d840146b03b63b00ac36ab6b6aef5eb9414fff8bd", func := "embrasure/embrasurelaw25.RelayNone", spec := "relayNone", inPlace := ["maps.clone"], unfollowed := true, recurses := true, plainKeys := false, apart := false }
def RelayNoneSaid : Prop := relayNoneRow.holds Try.pinned (OpenSpec.ofChange relayNoneSpec)

/-- ITS FALSE NEIGHBOUR: 'it returns false'. Refute it at one input. -/
def relayNoneWrong : ChangeSpec := { name := "relayNone", fn := fun _ => fun
  | [d1, d2, d3] => { results := [.lit (.bool false)], args := [d1, d2, d3] }
  | _ => none }
def RelayNoneWrongFalsely : Prop := relayNoneRow.holds Try.pinned (OpenSpec.ofChange relayNoneWrong)

/-- 'embrasurelaw25.RelayLeaves': WHATEVER THE INPUT: true; the input reads as it did. -/
def relayLeavesSpec : ChangeSpec := { name := "relayLeaves", fn := fun _ => fun
  | [d1, d2, d3] => { results := [.lit (.bool true)], args := [d1, d2, d3] }
  | _ => none }
def relayLeavesRow : OpenClaim := { program := "yteajlffchdbkjaa", sum := "ea1e527b499533d22a0c434d840146b03b63b00ac36ab6b6aef5eb9414fff8bd", func := "embrasure/embrasurelaw25.RelayLeaves", spec := "relayLeaves", inPlace := ["maps.clone"], unfollowed := true, recurses := true, plainKeys := false, apart := false }
def RelayLeavesSaid : Prop := relayLeavesRow.holds Try.pinned (OpenSpec.ofChange relayLeavesSpec)

/-- ITS FALSE NEIGHBOUR: 'it returns false'. Refute it at one input. -/
def relayLeavesWrong : ChangeSpec := { name := "relayLeaves", fn := fun _ => fun
  | [d1, d2, d3] => { results := [.lit (.bool false)], args := [d1, d2, d3] }
  | _ => none }
def RelayLeavesWrongFalsely : Prop := relayLeavesRow.holds Try.pinned (OpenSpec.ofChange relayLeavesWrong)

/- THE SECOND FORM. 'bulk': how many values and letters a reading holds, each counted each time it is reached (what is shared counts as often as it is met; a slice's spare places count too). A statement '..UptoSaid' is the law's where the arguments, and the package variables that the reading takes, are together of bulk at most 1048576: NARROWER than '..Said'. Prove '..Said' where nothing that the law and all that it calls make is longer than what came in: it says more and counts as full. Else prove '..UptoSaid'. A law counts once. -/
mutual
def uptoBulk {H : Type} : DataW H → Nat
  | .lit (.string bytes) => bytes.length + 1
  | .lit _ => 1
  | .nil => 1
  | .ptr d => uptoBulk d + 1
  | .slice elems spare => uptoBulkAll elems + uptoBulkAll spare + 1
  | .agg parts => uptoBulkAll parts + 1
  | .iface _ d => uptoBulk d + 1
  | .map entries => uptoBulkEntries entries + 1
  | .held _ => 1
def uptoBulkAll {H : Type} : List (DataW H) → Nat
  | [] => 0
  | d :: r => uptoBulk d + uptoBulkAll r
def uptoBulkEntries {H : Type} : List (Lit × DataW H) → Nat
  | [] => 0
  | x :: r => uptoBulkEntry x + uptoBulkEntries r
def uptoBulkEntry {H : Type} : Lit × DataW H → Nat
  | (.string bytes, d) => bytes.length + uptoBulk d + 1
  | (_, d) => uptoBulk d + 1
 end
def uptoSmall : (H : Type) → List (DataW H) → Bool := fun _ ds => decide (uptoBulkAll ds ≤ 1048576)
def OpenSpec.upto (s : _root_.Go.ChangeSpec) : _root_.Go.OpenSpec := { _root_.Go.OpenSpec.ofChange s with cond := some uptoSmall }

/-- 'embrasuretop.TopVouched', WHERE WHAT IT READS IS OF BULK AT MOST 1048576: true; the input reads as it did. -/
def topVouchedUptoRow : OpenClaim := { program := "yteajlffchdbkjaa", sum := "ea1e527b499533d22a0c434d840146b03b63b00ac36ab6b6aef5eb9414fff8bd", func := "embrasure/embrasuretop.TopVouched", spec := "topVouched", unfollowed := true, recurses := true, plainKeys := false, apart := false, narrowed := true }
def TopVouchedUptoSaid : Prop := topVouchedUptoRow.holds Try.pinned (OpenSpec.upto topVouchedSpec)

/-- 'embrasuretop.TopSpent', WHERE WHAT IT READS IS OF BULK AT MOST 1048576: true; the input reads as it did. -/
def topSpentUptoRow : OpenClaim := { program := "yteajlffchdbkjaa", sum := "ea1e527b499533d22a0c434d840146b03b63b00ac36ab6b6aef5eb9414fff8bd", func := "embrasure/embrasuretop.TopSpent", spec := "topSpent", inPlace := ["maps.clone"], unfollowed := true, recurses := true, plainKeys := false, apart := false, narrowed := true }
def TopSpentUptoSaid : Prop := topSpentUptoRow.holds Try.pinned (OpenSpec.upto topSpentSpec)

/-- 'embrasurelaw25.RelayCaps', WHERE WHAT IT READS IS OF BULK AT MOST 1048576: true; the input reads as it did. -/
def relayCapsUptoRow : OpenClaim := { program := "yteajlffchdbkjaa", sum := "ea1e527b499533d22a0c434d840146b03b63b00ac36ab6b6aef5eb9414fff8bd", func := "embrasure/embrasurelaw25.RelayCaps", spec := "relayCaps", inPlace := ["maps.clone"], unfollowed := true, recurses := true, plainKeys := false, apart := false, narrowed := true }
def RelayCapsUptoSaid : Prop := relayCapsUptoRow.holds Try.pinned (OpenSpec.upto relayCapsSpec)

/-- 'embrasurelaw25.RelayNone', WHERE WHAT IT READS IS OF BULK AT MOST 1048576: true; the input reads as it did. -/
def relayNoneUptoRow : OpenClaim := { program := "yteajlffchdbkjaa", sum := "ea1e527b499533d22a0c434d840146b03b63b00ac36ab6b6aef5eb9414fff8bd", func := "embrasure/embrasurelaw25.RelayNone", spec := "relayNone", inPlace := ["maps.clone"], unfollowed := true, recurses := true, plainKeys := false, apart := false, narrowed := true }
def RelayNoneUptoSaid : Prop := relayNoneUptoRow.holds Try.pinned (OpenSpec.upto relayNoneSpec)

/-- 'embrasurelaw25.RelayLeaves', WHERE WHAT IT READS IS OF BULK AT MOST 1048576: true; the input reads as it did. -/
def relayLeavesUptoRow : OpenClaim := { program := "yteajlffchdbkjaa", sum := "ea1e527b499533d22a0c434d840146b03b63b00ac36ab6b6aef5eb9414fff8bd", func := "embrasure/embrasurelaw25.RelayLeaves", spec := "relayLeaves", inPlace := ["maps.clone"], unfollowed := true, recurses := true, plainKeys := false, apart := false, narrowed := true }
def RelayLeavesUptoSaid : Prop := relayLeavesUptoRow.holds Try.pinned (OpenSpec.upto relayLeavesSpec)

end Rows
end Go.Proofs.Yteajlffchdbkjaa
