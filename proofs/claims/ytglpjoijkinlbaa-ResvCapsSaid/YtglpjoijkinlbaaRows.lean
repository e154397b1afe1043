/-
  No cell of these rows narrows 'for every input' (looked for: loops, veiled, ifaces, maps, wideKeys, modest, calm, conditions, laid).
  DERIVED. THE GIVEN ROWS OF THIS SEAT. 4 by the template 'for every input the law returns true; each argument reads behind the call as it read before'; 0 by the template 'total and deterministic' (their statements: YtglpjoijkinlbaaTotals.lean).
  GIVEN WITH THE SEED: the statements are not yours to turn. If you find one false, say at which input.
  Laid BY PROGRAM, IN A SANDBOX (cutbox-rows.mjs): the forced cells as the released guide's own fill.sh prints them over the translation 5c939c525051451f… (all of the seat's roots in one cut). By AI agents, Wed Nov 11 2026. No macro, syntax, notation, axiom, sorry.
-/
import Derived.Test.YtglpjoijkinlbaaChecked
import GoSem.Claim
import GoSem.ClaimJoined
import GoSem.ClaimMapViews
import Derived.JoinedTies
import Derived.KernelRfl
namespace Go.Proofs.Ytglpjoijkinlbaa
/- THE CELL 'sum', in the pinned program and in every row, IS THE sha256 OF THE DUMP (.gsa) THAT YtglpjoijkinlbaaProg.lean LOADS. Nothing in Lean hashes anything: it is a label: what it is worth is what the hold of that sum in a sandbox is worth. -/
noncomputable def Try.pinned : Pinned := { name := "ytglpjoijkinlbaa", sum := "5c939c525051451f6d79ddd85b9830f0d7010c3a19105eb4ca94d3b61a8b2098", checked := Try.checked }
namespace Rows
def none {H : Type} : Left H := { results := [], args := [] }

/-- 'embrasurelaw23.ResvCaps': WHATEVER THE INPUT: true; the input reads as it did. -/
def resvCapsSpec : ChangeSpec := { name := "resvCaps", fn := fun _ => fun
  | [d1, d2] => { results := [.lit (.bool true)], args := [d1, d2] }
  | _ => none }
def resvCapsRow : OpenClaim := { program := "ytglpjoijkinlbaa", sum := "5c939c525051451f6d79ddd85b9830f0d7010c3a19105eb4ca94d3b61a8b2098", func := "embrasure/embrasurelaw23.ResvCaps", spec := "resvCaps", inPlace := ["maps.clone"], unfollowed := true, recurses := true, apart := false }
def ResvCapsSaid : Prop := resvCapsRow.holds Try.pinned (OpenSpec.ofChange resvCapsSpec)

/-- ITS FALSE NEIGHBOUR: 'it returns false'. Refute it at one input. -/
def resvCapsWrong : ChangeSpec := { name := "resvCaps", fn := fun _ => fun
  | [d1, d2] => { results := [.lit (.bool false)], args := [d1, d2] }
  | _ => none }
def ResvCapsWrongFalsely : Prop := resvCapsRow.holds Try.pinned (OpenSpec.ofChange resvCapsWrong)

/-- 'embrasurelaw23.ResvAgain': WHATEVER THE INPUT: true; the input reads as it did. -/
def resvAgainSpec : ChangeSpec := { name := "resvAgain", fn := fun _ => fun
  | [d1, d2, d3] => { results := [.lit (.bool true)], args := [d1, d2, d3] }
  | _ => none }
def resvAgainRow : OpenClaim := { program := "ytglpjoijkinlbaa", sum := "5c939c525051451f6d79ddd85b9830f0d7010c3a19105eb4ca94d3b61a8b2098", func := "embrasure/embrasurelaw23.ResvAgain", spec := "resvAgain", inPlace := ["maps.clone"], unfollowed := true, recurses := true, apart := false }
def ResvAgainSaid : Prop := resvAgainRow.holds Try.pinned (OpenSpec.ofChange resvAgainSpec)

/-- ITS FALSE NEIGHBOUR: 'it returns false'. Refute it at one input. -/
def resvAgainWrong : ChangeSpec := { name := "resvAgain", fn := fun _ => fun
  | [d1, d2, d3] => { results := [.lit (.bool false)], args := [d1, d2, d3] }
  | _ => none }
def ResvAgainWrongFalsely : Prop := resvAgainRow.holds Try.pinned (OpenSpec.ofChange resvAgainWrong)

/-- 'embrasurelaw23.ResvCount': WHATEVER THE INPUT: true; the input reads as it did. -/
def resvCountSpec : ChangeSpec := { name := "resvCount", fn := fun _ => fun
  | [d1, d2, d3] => { results := [.lit (.bool true)], args := [d1, d2, d3] }
  | _ => none }
def resvCountRow : OpenClaim := { program := "ytglpjoijkinlbaa", sum := "5c939c525051451f6d79ddd85b9830f0d7010c3a19105eb4ca94d3b61a8b2098", func := "embrasure/embrasurelaw23.ResvCount", spec := "resvCount", inPlace := ["maps.clone"], unfollowed := true, recurses := true, apart := false }
def ResvCountSaid : Prop := resvCountRow.holds Try.pinned (OpenSpec.ofChange resvCountSpec)

/-- ITS FALSE NEIGHBOUR: 'it returns false'. Refute it at one input. -/
def resvCountWrong : ChangeSpec := { name := "resvCount", fn := fun _ => fun
  | [d1, d2, d3] => { results := [.lit (.bool false)], args := [d1, d2, d3] }
  | _ => none }
def ResvCountWrongFalsely : Prop := resvCountRow.holds Try.pinned (OpenSpec.ofChange resvCountWrong)

/-- 'embrasurelaw23.ResvOrder': WHATEVER THE INPUT: true; the input reads as it did. -/
def resvOrderSpec : ChangeSpec := { name := "resvOrder", fn := fun _ => fun
  | [d1, d2, d3] => { results := [.lit (.bool true)], args := [d1, d2, d3] }
  | _ => none }
def resvOrderRow : OpenClaim := { program := "ytglpjoijkinlbaa", sum := "5c939c525051451f6d79ddd85b9830f0d7010c3a19105eb4ca94d3b61a8b2098", func := "embrasure/embrasurelaw23.ResvOrder", spec := "resvOrder", inPlace := ["maps.clone"], unfollowed := true, recurses := true, apart := false }
def ResvOrderSaid : Prop := resvOrderRow.holds Try.pinned (OpenSpec.ofChange resvOrderSpec)

/-- ITS FALSE NEIGHBOUR: 'it returns false'. Refute it at one input. -/
def resvOrderWrong : ChangeSpec := { name := "resvOrder", fn := fun _ => fun
  | [d1, d2, d3] => { results := [.lit (.bool false)], args := [d1, d2, d3] }
  | _ => none }
def ResvOrderWrongFalsely : Prop := resvOrderRow.holds Try.pinned (OpenSpec.ofChange resvOrderWrong)

/- THE SECOND FORM. 'bulk': how many values and letters a reading holds, each counted each time it is reached (what is shared counts as often as it is met; a slice's spare places count too). A statement '..UptoSaid' is the law's where the arguments, and the package variables that the reading takes, are together of bulk at most 1048576: NARROWER than '..Said'. Prove '..Said' where nothing that the law and all that it calls make is longer than what came in: it says more and counts as full. Else prove '..UptoSaid'. A law counts once. -/
mutual
def uptoBulk {H : Type} : DataW H → Nat
  | .lit (.string bytes) => bytes.length + 1
  | .lit _ => 1
  | .nil => 1
  | .ptr d => uptoBulk d + 1
  | .slice elems spare => uptoBulkAll elems + uptoBulkAll spare + 1
  | .agg parts => uptoBulkAll parts + 1
  | .iface _ d => uptoBulk d + 1
  | .map entries => uptoBulkEntries entries + 1
  | .held _ => 1
def uptoBulkAll {H : Type} : List (DataW H) → Nat
  | [] => 0
  | d :: r => uptoBulk d + uptoBulkAll r
def uptoBulkEntries {H : Type} : List (Lit × DataW H) → Nat
  | [] => 0
  | x :: r => uptoBulkEntry x + uptoBulkEntries r
def uptoBulkEntry {H : Type} : Lit × DataW H → Nat
  | (.string bytes, d) => bytes.length + uptoBulk d + 1
  | (_, d) => uptoBulk d + 1
 end
def uptoSmall : (H : Type) → List (DataW H) → Bool := fun _ ds => decide (uptoBulkAll ds ≤ 1048576)
def OpenSpec.upto (s : _root_.Go.ChangeSpec) : _root_.Go.OpenSpec := { _root_.Go.OpenSpec.ofChange s with cond := some uptoSmall }

/-- 'embrasurelaw23.ResvCaps', WHERE WHAT IT READS IS OF BULK AT MOST 1048576: true; the input reads as it did. -/
def resvCapsUptoRow : OpenClaim := { program := "ytglpjoijkinlbaa", sum := "5c939c525051451f6d79ddd85b9830f0d7010c3a19105eb4ca94d3b61a8b2098", func := "embrasure/embrasurelaw23.ResvCaps", spec := "resvCaps", inPlace := ["maps.clone"], unfollowed := true, recurses := true, apart := false, narrowed := true }
def ResvCapsUptoSaid : Prop := resvCapsUptoRow.holds Try.pinned (OpenSpec.upto resvCapsSpec)

/-- 'embrasurelaw23.ResvAgain', WHERE WHAT IT READS IS OF BULK AT MOST 1048576: true; the input reads as it did. -/
def resvAgainUptoRow : OpenClaim := { program := "ytglpjoijkinlbaa", sum := "5c939c525051451f6d79ddd85b9830f0d7010c3a19105eb4ca94d3b61a8b2098", func := "embrasure/embrasurelaw23.ResvAgain", spec := "resvAgain", inPlace := ["maps.clone"], unfollowed := true, recurses := true, apart := false, narrowed := true }
def ResvAgainUptoSaid : Prop := resvAgainUptoRow.holds Try.pinned (OpenSpec.upto resvAgainSpec)

/-- 'embrasurelaw23.ResvCount', WHERE WHAT IT READS IS OF BULK AT MOST 1048576: true; the input reads as it did. -/
def resvCountUptoRow : OpenClaim := { program := "ytglpjoijkinlbaa", sum := "5c939c525051451f6d79ddd85b9830f0d7010c3a19105eb4ca94d3b61a8b2098", func := "embrasure/embrasurelaw23.ResvCount", spec := "resvCount", inPlace := ["maps.clone"], unfollowed := true, recurses := true, apart := false, narrowed := true }
def ResvCountUptoSaid : Prop := resvCountUptoRow.holds Try.pinned (OpenSpec.upto resvCountSpec)

/-- 'embrasurelaw23.ResvOrder', WHERE WHAT IT READS IS OF BULK AT MOST 1048576: true; the input reads as it did. -/
def resvOrderUptoRow : OpenClaim := { program := "ytglpjoijkinlbaa", sum := "5c939c525051451f6d79ddd85b9830f0d7010c3a19105eb4ca94d3b61a8b2098", func := "embrasure/embrasurelaw23.ResvOrder", spec := "resvOrder", inPlace := ["maps.clone"], unfollowed := true, recurses := true, apart := false, narrowed := true }
def ResvOrderUptoSaid : Prop := resvOrderUptoRow.holds Try.pinned (OpenSpec.upto resvOrderSpec)

end Rows
end Go.Proofs.Ytglpjoijkinlbaa
