/-
  WireTells, out of what its functions come to. Conditions: numbers are of their kinds, bytes are bytes.
-/
import Derived.Test.YtklcggcejaecdaaWo
import Derived.Test.YtklcggcejaecdaaWqs
import Derived.Test.YtklcggcejaecdaaJx6
namespace Go.Proofs.Ytklcggcejaecdaa.J
open Go.RowKit Go.Shelf Go.Proofs.Ytklcggcejaecdaa.Wi Go.Proofs.Ytklcggcejaecdaa.Uv Go.Proofs.Ytklcggcejaecdaa.Fr Go.Proofs.YtklcggcejaecdaaW.PrintWords Go.Proofs.YtklcggcejaecdaaW.PrintLast Go.Proofs.YtklcggcejaecdaaW.PrintMore
set_option linter.unusedVariables false
set_option linter.unusedSimpArgs false
/-! ### WireTells -/
theorem tells_j0 {kind : Int} {N : List Int} {L : List S45} {B : List Int} (hN : InN N) (hL : InS L) (hB : Bytes B) (hn : N.length ≤ 40) (hl : L.length ≤ 40) (hb : B.length ≤ 3000) : Ev (fun k => embrasurelaw05_WireTells.j0 k (bytesF kind N (L.map prS) B) false kind N L B) true := by
  refine Ev.step (f := fun k => (embrasureref05_May.f k kind N L B).bind fun t198 => if t198 = true then ((wire_FromBytes.f (bytesF kind N (L.map prS) B)).bind fun bt199 => if bt199.2.2.2.2 = 0 then ((embrasureref05_Same.f k bt199.1 bt199.2.1 bt199.2.2.1 bt199.2.2.2.1 kind N L B).bind fun t211 => some t211) else some false) else some (((bytesF kind N (L.map prS) B).length : Int) == 0)) (fun k => ?_) ?_
  · simp only [embrasurelaw05_WireTells.j0]
    rw [if_neg (by simp)]
  · refine Ev.bind (rmay_yes hN hL (by omega) (by omega)) ?_
    by_cases hm : mayM kind N (L.map prS) B = true
    · refine Ev_if hm ?_
      rw [show bytesF kind N (L.map prS) B = bytesM kind N (L.map prS) B from if_pos hm, from_put hN hL hB hm]
      simp only [Option.bind_some, if_true]
      have := rsame_yes kind N L B kind N L B (by omega) (by omega) (by omega)
      simp only [and_self, decide_true] at this
      exact Ev.bind this (Ev.now _)
    · refine Ev_else hm ?_
      rw [show bytesF kind N (L.map prS) B = [] from if_neg hm]
      exact Ev.now _
theorem tells_yes {kind : Int} {N : List Int} {L : List S45} {B : List Int} (hN : InN N) (hL : InS L) (hB : Bytes B) : Ev (fun k => embrasurelaw05_WireTells.f k kind N L B) true := by
  unfold embrasurelaw05_WireTells.f
  refine law_in (fun ⟨hn, hl, hb⟩ => ?_) (fun _ => Ev.now _)
  refine Ev.bind (wbytes_yes hN hL (by omega) (by omega)) ?_
  simp only [wmay_f hN hL (by omega : N.length ≤ 1000000000) (by omega : L.length ≤ 1000000000), Option.bind_some]
  refine Ev.bind (rmay_yes hN hL (by omega) (by omega)) ?_
  refine Ev_else (by simp) ?_
  refine Ev.bind (rbytes_yes hN hL (by omega) (by omega)) ?_
  have h9 := bytesF_len kind N (L.map prS) B
  simp only [same_f (by omega : (bytesF kind N (L.map prS) B).length ≤ 140737488355328), Option.bind_some, decide_true, if_true, nums_f]
  refine Ev.bind (rnums_yes kind) ?_
  simp only [bne_self_eq_false]
  exact tells_j0 hN hL hB hn hl hb
theorem tells_row (cs0 : Array Value) (x0 : MsgV) (w : World) (hr0 : dMsg.K w x0 (Value.agg cs0).cells.toList) (hw0 : okMsg x0) : Calls Try.prog 3 #[.agg cs0] w fun e w' => e = .returned (.bool true) ∧ Below w.heap.size w w' := by
  obtain ⟨A1, c1, A2, c2, A3, c3, rfl, r1, r2, r3⟩ := msg_cells hr0
  obtain ⟨k, h⟩ := (tells_yes (kind := x0.1) hw0.2.1 hw0.2.2.1 hw0.2.2.2).rounds
  exact embrasurelaw05_WireTells.calls k x0.1 A1 c1 x0.2.1 A2 c2 x0.2.2.1 A3 c3 x0.2.2.2 true w r1.1 r1.2 r2.1 r2.2 r3.1 r3.2 h
end Go.Proofs.Ytklcggcejaecdaa.J
