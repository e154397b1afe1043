/-
  No cell of these rows narrows 'for every input' (looked for: loops, veiled, ifaces, maps, wideKeys, modest, calm, conditions, laid).
  DERIVED. THE GIVEN ROWS OF THIS SEAT. 4 by the template 'for every input the law returns true; each argument reads behind the call as it read before'; 0 by the template 'total and deterministic' (their statements: YtmidmdbhbhjcdaaTotals.lean).
  GIVEN WITH THE SEED: the statements are not yours to turn. If you find one false, say at which input.
  Laid BY PROGRAM, IN A SANDBOX (cutbox-rows.mjs): the forced cells as the released guide's own fill.sh prints them over the translation 21d25401d4663387… (all of the seat's roots in one cut). By AI agents, Wed Nov 11 2026. No macro, syntax, notation, axiom, sorry.
-/
import Derived.Test.YtmidmdbhbhjcdaaChecked
import GoSem.Claim
import GoSem.ClaimJoined
import GoSem.ClaimMapViews
import Derived.JoinedTies
import Derived.KernelRfl
namespace Go.Proofs.Ytmidmdbhbhjcdaa
/- THE CELL 'sum', in the pinned program and in every row, IS THE sha256 OF THE DUMP (.gsa) THAT YtmidmdbhbhjcdaaProg.lean LOADS. Nothing in Lean hashes anything: it is a label: what it is worth is what the hold of that sum in a sandbox is worth. -/
noncomputable def Try.pinned : Pinned := { name := "ytmidmdbhbhjcdaa", sum := "21d25401d4663387fb00c57044a513762946eda932946ae19a3c727e1f0977b9", checked := Try.checked }
namespace Rows
def none {H : Type} : Left H := { results := [], args := [] }

/-- 'embrasurelaw22.VouchReads': WHATEVER THE INPUT: true; the input reads as it did. -/
def vouchReadsSpec : ChangeSpec := { name := "vouchReads", fn := fun _ => fun
  | [d1, d2, d3] => { results := [.lit (.bool true)], args := [d1, d2, d3] }
  | _ => none }
def vouchReadsRow : OpenClaim := { program := "ytmidmdbhbhjcdaa", sum := "21d25401d4663387fb00c57044a513762946eda932946ae19a3c727e1f0977b9", func := "embrasure/embrasurelaw22.VouchReads", spec := "vouchReads", unfollowed := true, recurses := true, plainKeys := false, apart := false }
def VouchReadsSaid : Prop := vouchReadsRow.holds Try.pinned (OpenSpec.ofChange vouchReadsSpec)

/-- ITS FALSE NEIGHBOUR: 'it returns false'. Refute it at one input. -/
def vouchReadsWrong : ChangeSpec := { name := "vouchReads", fn := fun _ => fun
  | [d1, d2, d3] => { results := [.lit (.bool false)], args := [d1, d2, d3] }
  | _ => none }
def VouchReadsWrongFalsely : Prop := vouchReadsRow.holds Try.pinned (OpenSpec.ofChange vouchReadsWrong)

/-- 'embrasurelaw22.VouchForged': WHATEVER THE INPUT: true; the input reads as it did. -/
def vouchForgedSpec : ChangeSpec := { name := "vouchForged", fn := fun _ => fun
  | [d1, d2, d3] => { results := [.lit (.bool true)], args := [d1, d2, d3] }
  | _ => none }
def vouchForgedRow : OpenClaim := { program := "ytmidmdbhbhjcdaa", sum := "21d25401d4663387fb00c57044a513762946eda932946ae19a3c727e1f0977b9", func := "embrasure/embrasurelaw22.VouchForged", spec := "vouchForged", unfollowed := true, recurses := true, plainKeys := false, apart := false }
def VouchForgedSaid : Prop := vouchForgedRow.holds Try.pinned (OpenSpec.ofChange vouchForgedSpec)

/-- ITS FALSE NEIGHBOUR: 'it returns false'. Refute it at one input. -/
def vouchForgedWrong : ChangeSpec := { name := "vouchForged", fn := fun _ => fun
  | [d1, d2, d3] => { results := [.lit (.bool false)], args := [d1, d2, d3] }
  | _ => none }
def VouchForgedWrongFalsely : Prop := vouchForgedRow.holds Try.pinned (OpenSpec.ofChange vouchForgedWrong)

/-- 'embrasurelaw22.VouchMakes': WHATEVER THE INPUT: true; the input reads as it did. -/
def vouchMakesSpec : ChangeSpec := { name := "vouchMakes", fn := fun _ => fun
  | [d1, d2] => { results := [.lit (.bool true)], args := [d1, d2] }
  | _ => none }
def vouchMakesRow : OpenClaim := { program := "ytmidmdbhbhjcdaa", sum := "21d25401d4663387fb00c57044a513762946eda932946ae19a3c727e1f0977b9", func := "embrasure/embrasurelaw22.VouchMakes", spec := "vouchMakes", unfollowed := true, recurses := true, plainKeys := false, apart := false }
def VouchMakesSaid : Prop := vouchMakesRow.holds Try.pinned (OpenSpec.ofChange vouchMakesSpec)

/-- ITS FALSE NEIGHBOUR: 'it returns false'. Refute it at one input. -/
def vouchMakesWrong : ChangeSpec := { name := "vouchMakes", fn := fun _ => fun
  | [d1, d2] => { results := [.lit (.bool false)], args := [d1, d2] }
  | _ => none }
def VouchMakesWrongFalsely : Prop := vouchMakesRow.holds Try.pinned (OpenSpec.ofChange vouchMakesWrong)

/-- 'embrasurelaw22.VouchApart': WHATEVER THE INPUT: true; the input reads as it did. -/
def vouchApartSpec : ChangeSpec := { name := "vouchApart", fn := fun _ => fun
  | [d1, d2] => { results := [.lit (.bool true)], args := [d1, d2] }
  | _ => none }
def vouchApartRow : OpenClaim := { program := "ytmidmdbhbhjcdaa", sum := "21d25401d4663387fb00c57044a513762946eda932946ae19a3c727e1f0977b9", func := "embrasure/embrasurelaw22.VouchApart", spec := "vouchApart", unfollowed := true, recurses := true, plainKeys := false, apart := false }
def VouchApartSaid : Prop := vouchApartRow.holds Try.pinned (OpenSpec.ofChange vouchApartSpec)

/-- ITS FALSE NEIGHBOUR: 'it returns false'. Refute it at one input. -/
def vouchApartWrong : ChangeSpec := { name := "vouchApart", fn := fun _ => fun
  | [d1, d2] => { results := [.lit (.bool false)], args := [d1, d2] }
  | _ => none }
def VouchApartWrongFalsely : Prop := vouchApartRow.holds Try.pinned (OpenSpec.ofChange vouchApartWrong)

/- THE SECOND FORM. 'bulk': how many values and letters a reading holds, each counted each time it is reached (what is shared counts as often as it is met; a slice's spare places count too). A statement '..UptoSaid' is the law's where the arguments, and the package variables that the reading takes, are together of bulk at most 1048576: NARROWER than '..Said'. Prove '..Said' where nothing that the law and all that it calls make is longer than what came in: it says more and counts as full. Else prove '..UptoSaid'. A law counts once. -/
mutual
def uptoBulk {H : Type} : DataW H → Nat
  | .lit (.string bytes) => bytes.length + 1
  | .lit _ => 1
  | .nil => 1
  | .ptr d => uptoBulk d + 1
  | .slice elems spare => uptoBulkAll elems + uptoBulkAll spare + 1
  | .agg parts => uptoBulkAll parts + 1
  | .iface _ d => uptoBulk d + 1
  | .map entries => uptoBulkEntries entries + 1
  | .held _ => 1
def uptoBulkAll {H : Type} : List (DataW H) → Nat
  | [] => 0
  | d :: r => uptoBulk d + uptoBulkAll r
def uptoBulkEntries {H : Type} : List (Lit × DataW H) → Nat
  | [] => 0
  | x :: r => uptoBulkEntry x + uptoBulkEntries r
def uptoBulkEntry {H : Type} : Lit × DataW H → Nat
  | (.string bytes, d) => bytes.length + uptoBulk d + 1
  | (_, d) => uptoBulk d + 1
 end
def uptoSmall : (H : Type) → List (DataW H) → Bool := fun _ ds => decide (uptoBulkAll ds ≤ 1048576)
def OpenSpec.upto (s : _root_.Go.ChangeSpec) : _root_.Go.OpenSpec := { _root_.Go.OpenSpec.ofChange s with cond := some uptoSmall }

/-- 'embrasurelaw22.VouchReads', WHERE WHAT IT READS IS OF BULK AT MOST 1048576: true; the input reads as it did. -/
def vouchReadsUptoRow : OpenClaim := { program := "ytmidmdbhbhjcdaa", sum := "21d25401d4663387fb00c57044a513762946eda932946ae19a3c727e1f0977b9", func := "embrasure/embrasurelaw22.VouchReads", spec := "vouchReads", unfollowed := true, recurses := true, plainKeys := false, apart := false, narrowed := true }
def VouchReadsUptoSaid : Prop := vouchReadsUptoRow.holds Try.pinned (OpenSpec.upto vouchReadsSpec)

/-- 'embrasurelaw22.VouchForged', WHERE WHAT IT READS IS OF BULK AT MOST 1048576: true; the input reads as it did. -/
def vouchForgedUptoRow : OpenClaim := { program := "ytmidmdbhbhjcdaa", sum := "21d25401d4663387fb00c57044a513762946eda932946ae19a3c727e1f0977b9", func := "embrasure/embrasurelaw22.VouchForged", spec := "vouchForged", unfollowed := true, recurses := true, plainKeys := false, apart := false, narrowed := true }
def VouchForgedUptoSaid : Prop := vouchForgedUptoRow.holds Try.pinned (OpenSpec.upto vouchForgedSpec)

/-- 'embrasurelaw22.VouchMakes', WHERE WHAT IT READS IS OF BULK AT MOST 1048576: true; the input reads as it did. -/
def vouchMakesUptoRow : OpenClaim := { program := "ytmidmdbhbhjcdaa", sum := "21d25401d4663387fb00c57044a513762946eda932946ae19a3c727e1f0977b9", func := "embrasure/embrasurelaw22.VouchMakes", spec := "vouchMakes", unfollowed := true, recurses := true, plainKeys := false, apart := false, narrowed := true }
def VouchMakesUptoSaid : Prop := vouchMakesUptoRow.holds Try.pinned (OpenSpec.upto vouchMakesSpec)

/-- 'embrasurelaw22.VouchApart', WHERE WHAT IT READS IS OF BULK AT MOST 1048576: true; the input reads as it did. -/
def vouchApartUptoRow : OpenClaim := { program := "ytmidmdbhbhjcdaa", sum := "21d25401d4663387fb00c57044a513762946eda932946ae19a3c727e1f0977b9", func := "embrasure/embrasurelaw22.VouchApart", spec := "vouchApart", unfollowed := true, recurses := true, plainKeys := false, apart := false, narrowed := true }
def VouchApartUptoSaid : Prop := vouchApartUptoRow.holds Try.pinned (OpenSpec.upto vouchApartSpec)

end Rows
end Go.Proofs.Ytmidmdbhbhjcdaa
