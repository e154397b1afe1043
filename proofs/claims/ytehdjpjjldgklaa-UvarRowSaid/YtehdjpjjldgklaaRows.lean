/-
  No cell of these rows narrows 'for every input' (looked for: loops, veiled, ifaces, maps, wideKeys, modest, calm, conditions, laid).
  DERIVED. THE GIVEN ROWS OF THIS SEAT. 6 by the template 'for every input the law returns true; each argument reads behind the call as it read before'; 0 by the template 'total and deterministic' (their statements: YtehdjpjjldgklaaTotals.lean).
  GIVEN WITH THE SEED: the statements are not yours to turn. If you find one false, say at which input.
  Laid BY PROGRAM, IN A SANDBOX (cutbox-rows.mjs): the forced cells as the released guide's own fill.sh prints them over the translation bb1fa148e5231f80… (all of the seat's roots in one cut). By AI agents, Wed Nov 11 2026. No macro, syntax, notation, axiom, sorry.
-/
import Derived.Test.YtehdjpjjldgklaaChecked
import GoSem.Claim
import GoSem.ClaimJoined
import GoSem.ClaimMapViews
import Derived.JoinedTies
import Derived.KernelRfl
namespace Go.Proofs.Ytehdjpjjldgklaa
/- THE CELL 'sum', in the pinned program and in every row, IS THE sha256 OF THE DUMP (.gsa) THAT YtehdjpjjldgklaaProg.lean LOADS. Nothing in Lean hashes anything: it is a label: what it is worth is what the hold of that sum in a sandbox is worth. -/
noncomputable def Try.pinned : Pinned := { name := "ytehdjpjjldgklaa", sum := "bb1fa148e5231f80cb3ef05a3ff2217eafe759a0def98fe12d241e3f87f9bc67", checked := Try.checked }
namespace Rows
def none {H : Type} : Left H := { results := [], args := [] }

/-- 'embrasurelaw01.UvarPuts': WHATEVER THE INPUT: true; the input reads as it did. -/
def uvarPutsSpec : ChangeSpec := { name := "uvarPuts", fn := fun _ => fun
  | [d1, d2] => { results := [.lit (.bool true)], args := [d1, d2] }
  | _ => none }
def uvarPutsRow : OpenClaim := { program := "ytehdjpjjldgklaa", sum := "bb1fa148e5231f80cb3ef05a3ff2217eafe759a0def98fe12d241e3f87f9bc67", func := "embrasure/embrasurelaw01.UvarPuts", spec := "uvarPuts", apart := false }
def UvarPutsSaid : Prop := uvarPutsRow.holds Try.pinned (OpenSpec.ofChange uvarPutsSpec)

/-- ITS FALSE NEIGHBOUR: 'it returns false'. Refute it at one input. -/
def uvarPutsWrong : ChangeSpec := { name := "uvarPuts", fn := fun _ => fun
  | [d1, d2] => { results := [.lit (.bool false)], args := [d1, d2] }
  | _ => none }
def UvarPutsWrongFalsely : Prop := uvarPutsRow.holds Try.pinned (OpenSpec.ofChange uvarPutsWrong)

/-- 'embrasurelaw01.UvarGets': WHATEVER THE INPUT: true; the input reads as it did. -/
def uvarGetsSpec : ChangeSpec := { name := "uvarGets", fn := fun _ => fun
  | [d] => { results := [.lit (.bool true)], args := [d] }
  | _ => none }
def uvarGetsRow : OpenClaim := { program := "ytehdjpjjldgklaa", sum := "bb1fa148e5231f80cb3ef05a3ff2217eafe759a0def98fe12d241e3f87f9bc67", func := "embrasure/embrasurelaw01.UvarGets", spec := "uvarGets", apart := false }
def UvarGetsSaid : Prop := uvarGetsRow.holds Try.pinned (OpenSpec.ofChange uvarGetsSpec)

/-- ITS FALSE NEIGHBOUR: 'it returns false'. Refute it at one input. -/
def uvarGetsWrong : ChangeSpec := { name := "uvarGets", fn := fun _ => fun
  | [d] => { results := [.lit (.bool false)], args := [d] }
  | _ => none }
def UvarGetsWrongFalsely : Prop := uvarGetsRow.holds Try.pinned (OpenSpec.ofChange uvarGetsWrong)

/-- 'embrasurelaw01.UvarLens': WHATEVER THE INPUT: true; the input reads as it did. -/
def uvarLensSpec : ChangeSpec := { name := "uvarLens", fn := fun _ => fun
  | [d1, d2] => { results := [.lit (.bool true)], args := [d1, d2] }
  | _ => none }
def uvarLensRow : OpenClaim := { program := "ytehdjpjjldgklaa", sum := "bb1fa148e5231f80cb3ef05a3ff2217eafe759a0def98fe12d241e3f87f9bc67", func := "embrasure/embrasurelaw01.UvarLens", spec := "uvarLens", apart := false }
def UvarLensSaid : Prop := uvarLensRow.holds Try.pinned (OpenSpec.ofChange uvarLensSpec)

/-- ITS FALSE NEIGHBOUR: 'it returns false'. Refute it at one input. -/
def uvarLensWrong : ChangeSpec := { name := "uvarLens", fn := fun _ => fun
  | [d1, d2] => { results := [.lit (.bool false)], args := [d1, d2] }
  | _ => none }
def UvarLensWrongFalsely : Prop := uvarLensRow.holds Try.pinned (OpenSpec.ofChange uvarLensWrong)

/-- 'embrasurelaw01.UvarCut': WHATEVER THE INPUT: true; the input reads as it did. -/
def uvarCutSpec : ChangeSpec := { name := "uvarCut", fn := fun _ => fun
  | [d1, d2] => { results := [.lit (.bool true)], args := [d1, d2] }
  | _ => none }
def uvarCutRow : OpenClaim := { program := "ytehdjpjjldgklaa", sum := "bb1fa148e5231f80cb3ef05a3ff2217eafe759a0def98fe12d241e3f87f9bc67", func := "embrasure/embrasurelaw01.UvarCut", spec := "uvarCut", apart := false }
def UvarCutSaid : Prop := uvarCutRow.holds Try.pinned (OpenSpec.ofChange uvarCutSpec)

/-- ITS FALSE NEIGHBOUR: 'it returns false'. Refute it at one input. -/
def uvarCutWrong : ChangeSpec := { name := "uvarCut", fn := fun _ => fun
  | [d1, d2] => { results := [.lit (.bool false)], args := [d1, d2] }
  | _ => none }
def UvarCutWrongFalsely : Prop := uvarCutRow.holds Try.pinned (OpenSpec.ofChange uvarCutWrong)

/-- 'embrasurelaw01.UvarEach': WHATEVER THE INPUT: true; the input reads as it did. -/
def uvarEachSpec : ChangeSpec := { name := "uvarEach", fn := fun _ => fun
  | [d1, d2, d3] => { results := [.lit (.bool true)], args := [d1, d2, d3] }
  | _ => none }
def uvarEachRow : OpenClaim := { program := "ytehdjpjjldgklaa", sum := "bb1fa148e5231f80cb3ef05a3ff2217eafe759a0def98fe12d241e3f87f9bc67", func := "embrasure/embrasurelaw01.UvarEach", spec := "uvarEach", unfollowed := true, recurses := true, apart := false }
def UvarEachSaid : Prop := uvarEachRow.holds Try.pinned (OpenSpec.ofChange uvarEachSpec)

/-- ITS FALSE NEIGHBOUR: 'it returns false'. Refute it at one input. -/
def uvarEachWrong : ChangeSpec := { name := "uvarEach", fn := fun _ => fun
  | [d1, d2, d3] => { results := [.lit (.bool false)], args := [d1, d2, d3] }
  | _ => none }
def UvarEachWrongFalsely : Prop := uvarEachRow.holds Try.pinned (OpenSpec.ofChange uvarEachWrong)

/-- 'embrasurelaw01.UvarRow': WHATEVER THE INPUT: true; the input reads as it did. -/
def uvarRowSpec : ChangeSpec := { name := "uvarRow", fn := fun _ => fun
  | [d1, d2] => { results := [.lit (.bool true)], args := [d1, d2] }
  | _ => none }
def uvarRowRow : OpenClaim := { program := "ytehdjpjjldgklaa", sum := "bb1fa148e5231f80cb3ef05a3ff2217eafe759a0def98fe12d241e3f87f9bc67", func := "embrasure/embrasurelaw01.UvarRow", spec := "uvarRow", unfollowed := true, recurses := true, apart := false }
def UvarRowSaid : Prop := uvarRowRow.holds Try.pinned (OpenSpec.ofChange uvarRowSpec)

/-- ITS FALSE NEIGHBOUR: 'it returns false'. Refute it at one input. -/
def uvarRowWrong : ChangeSpec := { name := "uvarRow", fn := fun _ => fun
  | [d1, d2] => { results := [.lit (.bool false)], args := [d1, d2] }
  | _ => none }
def UvarRowWrongFalsely : Prop := uvarRowRow.holds Try.pinned (OpenSpec.ofChange uvarRowWrong)

/- THE SECOND FORM. 'bulk': how many values and letters a reading holds, each counted each time it is reached (what is shared counts as often as it is met; a slice's spare places count too). A statement '..UptoSaid' is the law's where the arguments, and the package variables that the reading takes, are together of bulk at most 1048576: NARROWER than '..Said'. Prove '..Said' where nothing that the law and all that it calls make is longer than what came in: it says more and counts as full. Else prove '..UptoSaid'. A law counts once. -/
mutual
def uptoBulk {H : Type} : DataW H → Nat
  | .lit (.string bytes) => bytes.length + 1
  | .lit _ => 1
  | .nil => 1
  | .ptr d => uptoBulk d + 1
  | .slice elems spare => uptoBulkAll elems + uptoBulkAll spare + 1
  | .agg parts => uptoBulkAll parts + 1
  | .iface _ d => uptoBulk d + 1
  | .map entries => uptoBulkEntries entries + 1
  | .held _ => 1
def uptoBulkAll {H : Type} : List (DataW H) → Nat
  | [] => 0
  | d :: r => uptoBulk d + uptoBulkAll r
def uptoBulkEntries {H : Type} : List (Lit × DataW H) → Nat
  | [] => 0
  | x :: r => uptoBulkEntry x + uptoBulkEntries r
def uptoBulkEntry {H : Type} : Lit × DataW H → Nat
  | (.string bytes, d) => bytes.length + uptoBulk d + 1
  | (_, d) => uptoBulk d + 1
 end
def uptoSmall : (H : Type) → List (DataW H) → Bool := fun _ ds => decide (uptoBulkAll ds ≤ 1048576)
def OpenSpec.upto (s : _root_.Go.ChangeSpec) : _root_.Go.OpenSpec := { _root_.Go.OpenSpec.ofChange s with cond := some uptoSmall }

/-- 'embrasurelaw01.UvarPuts', WHERE WHAT IT READS IS OF BULK AT MOST 1048576: true; the input reads as it did. -/
def uvarPutsUptoRow : OpenClaim := { program := "ytehdjpjjldgklaa", sum := "bb1fa148e5231f80cb3ef05a3ff2217eafe759a0def98fe12d241e3f87f9bc67", func := "embrasure/embrasurelaw01.UvarPuts", spec := "uvarPuts", apart := false, narrowed := true }
def UvarPutsUptoSaid : Prop := uvarPutsUptoRow.holds Try.pinned (OpenSpec.upto uvarPutsSpec)

/-- 'embrasurelaw01.UvarGets', WHERE WHAT IT READS IS OF BULK AT MOST 1048576: true; the input reads as it did. -/
def uvarGetsUptoRow : OpenClaim := { program := "ytehdjpjjldgklaa", sum := "bb1fa148e5231f80cb3ef05a3ff2217eafe759a0def98fe12d241e3f87f9bc67", func := "embrasure/embrasurelaw01.UvarGets", spec := "uvarGets", apart := false, narrowed := true }
def UvarGetsUptoSaid : Prop := uvarGetsUptoRow.holds Try.pinned (OpenSpec.upto uvarGetsSpec)

/-- 'embrasurelaw01.UvarLens', WHERE WHAT IT READS IS OF BULK AT MOST 1048576: true; the input reads as it did. -/
def uvarLensUptoRow : OpenClaim := { program := "ytehdjpjjldgklaa", sum := "bb1fa148e5231f80cb3ef05a3ff2217eafe759a0def98fe12d241e3f87f9bc67", func := "embrasure/embrasurelaw01.UvarLens", spec := "uvarLens", apart := false, narrowed := true }
def UvarLensUptoSaid : Prop := uvarLensUptoRow.holds Try.pinned (OpenSpec.upto uvarLensSpec)

/-- 'embrasurelaw01.UvarCut', WHERE WHAT IT READS IS OF BULK AT MOST 1048576: true; the input reads as it did. -/
def uvarCutUptoRow : OpenClaim := { program := "ytehdjpjjldgklaa", sum := "bb1fa148e5231f80cb3ef05a3ff2217eafe759a0def98fe12d241e3f87f9bc67", func := "embrasure/embrasurelaw01.UvarCut", spec := "uvarCut", apart := false, narrowed := true }
def UvarCutUptoSaid : Prop := uvarCutUptoRow.holds Try.pinned (OpenSpec.upto uvarCutSpec)

/-- 'embrasurelaw01.UvarEach', WHERE WHAT IT READS IS OF BULK AT MOST 1048576: true; the input reads as it did. -/
def uvarEachUptoRow : OpenClaim := { program := "ytehdjpjjldgklaa", sum := "bb1fa148e5231f80cb3ef05a3ff2217eafe759a0def98fe12d241e3f87f9bc67", func := "embrasure/embrasurelaw01.UvarEach", spec := "uvarEach", unfollowed := true, recurses := true, apart := false, narrowed := true }
def UvarEachUptoSaid : Prop := uvarEachUptoRow.holds Try.pinned (OpenSpec.upto uvarEachSpec)

/-- 'embrasurelaw01.UvarRow', WHERE WHAT IT READS IS OF BULK AT MOST 1048576: true; the input reads as it did. -/
def uvarRowUptoRow : OpenClaim := { program := "ytehdjpjjldgklaa", sum := "bb1fa148e5231f80cb3ef05a3ff2217eafe759a0def98fe12d241e3f87f9bc67", func := "embrasure/embrasurelaw01.UvarRow", spec := "uvarRow", unfollowed := true, recurses := true, apart := false, narrowed := true }
def UvarRowUptoSaid : Prop := uvarRowUptoRow.holds Try.pinned (OpenSpec.upto uvarRowSpec)

end Rows
end Go.Proofs.Ytehdjpjjldgklaa
