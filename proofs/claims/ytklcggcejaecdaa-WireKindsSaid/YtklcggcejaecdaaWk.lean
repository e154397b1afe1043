/-
  WireKinds, out of what its functions come to. Conditions: numbers are of their kinds, bytes are bytes.
-/
import Derived.Test.YtklcggcejaecdaaWo
import Derived.Test.YtklcggcejaecdaaJx11
namespace Go.Proofs.Ytklcggcejaecdaa.J
open Go.RowKit Go.Shelf Go.Proofs.Ytklcggcejaecdaa.Wi Go.Proofs.Ytklcggcejaecdaa.Uv Go.Proofs.Ytklcggcejaecdaa.Fr Go.Proofs.YtklcggcejaecdaaW.PrintWords Go.Proofs.YtklcggcejaecdaaW.PrintLast Go.Proofs.YtklcggcejaecdaaW.PrintMore
set_option linter.unusedVariables false
set_option linter.unusedSimpArgs false
/-! ### WireKinds -/
theorem kinds_j0 {kind a1 : Int} {N : List Int} {L : List S45} {B : List Int} (hN : InN N) (hL : InS L) (hB : Bytes B) (hn : N.length ≤ 40) (hl : L.length ≤ 40) (hb : B.length ≤ 3000) (x : Bool) (hx : x = false → mayM kind N (L.map prS) B = true) : Ev (fun k => embrasurelaw05_WireKinds.j0 k a1 x kind N L B) true := by
  cases x with
  | true =>
    refine Ev.step (f := fun _ => some true) (fun k => ?_) (Ev.now _)
    simp only [embrasurelaw05_WireKinds.j0]
    rw [if_pos trivial]
  | false =>
    have hm := hx rfl
    refine Ev.step (f := fun k => (embrasureref05_Nums.f k a1).bind fun t354 => (if t354 = (N.length : Int) then ((wire_Bytes.f k kind N L B).bind fun t358 => ((wire_Bytes.f k a1 N L B).bind fun t361 => ((wire_FromBytes.f t361).bind fun bt364 => (if bt364.2.2.2.2 = 0 then (if bt364.1 = a1 then (if (t358.length : Int) = (t361.length : Int) then (if 1 ≤ (t358.length : Int) then (if 1 ≤ (t361.length : Int) then ((embrasureref01_Same.f (t358.drop 1) (t361.drop 1)).bind fun t384 => (some t384)) else (none)) else (none)) else (some false)) else (some false)) else (some false))))) else ((wire_Bytes.f k a1 N L B).bind fun t355 => (some ((t355.length : Int) == 0))))) (fun k => ?_) ?_
    · simp only [embrasurelaw05_WireKinds.j0]
      rw [if_neg (by simp)]
    · refine Ev.bind (rnums_yes a1) ?_
      have W0 := wbytes_yes (kind := kind) (B := B) hN hL (by omega) (by omega)
      have W1 := wbytes_yes (kind := a1) (B := B) hN hL (by omega) (by omega)
      by_cases q : numsF a1 = (N.length : Int)
      · refine Ev_if q ?_
        obtain ⟨h1, h2, h3, h4, h5⟩ := may_split hm
        have hm1 : mayM a1 N (L.map prS) B = true := may_join q.symm h2 h3 h4 h5
        obtain ⟨_, _, _, _, _, k0, k1⟩ := may_parts hN hL hm
        obtain ⟨_, _, _, _, _, k2, k3⟩ := may_parts hN hL hm1
        refine Ev.bind W0 (Ev.bind W1 ?_)
        rw [show bytesF kind N (L.map prS) B = bytesM kind N (L.map prS) B from if_pos hm, show bytesF a1 N (L.map prS) B = bytesM a1 N (L.map prS) B from if_pos hm1, from_put hN hL hB hm1]
        simp only [Option.bind_some, if_true]
        have l1 := bytesM_len hm
        have e0 : bytesM kind N (L.map prS) B = kind :: (flatN N ++ (putI (L.map prS).length ++ (flatA (L.map prS) ++ (putI B.length ++ B)))) := by
          unfold bytesM
          rw [putI_small kind (by omega) (by omega)]
          rfl
        have e1 : bytesM a1 N (L.map prS) B = a1 :: (flatN N ++ (putI (L.map prS).length ++ (flatA (L.map prS) ++ (putI B.length ++ B)))) := by
          unfold bytesM
          rw [putI_small a1 (by omega) (by omega)]
          rfl
        rw [e0] at l1
        rw [e0, e1]
        simp only [List.length_cons] at l1 ⊢
        refine Ev_if trivial (Ev_if (by omega) (Ev_if (by omega) ?_))
        simp only [List.drop_one, List.tail_cons]
        rw [same_f (by omega)]
        simp only [decide_true, Option.bind_some]
        exact Ev.now _
      · refine Ev_else q ?_
        have hm1 : bytesF a1 N (L.map prS) B = [] := if_neg fun h => q (may_split h).1.symm
        rw [hm1] at W1
        exact Ev.bind W1 (Ev.now _)
theorem kinds_yes {kind a1 : Int} {N : List Int} {L : List S45} {B : List Int} (hN : InN N) (hL : InS L) (hB : Bytes B) : Ev (fun k => embrasurelaw05_WireKinds.f k kind N L B a1) true := by
  unfold embrasurelaw05_WireKinds.f
  refine Ev.bind awake_yes ?_
  refine Ev_if rfl ?_
  simp only [small_f, Option.bind_some, decide_eq_true_eq]
  by_cases h : N.length ≤ 40 ∧ L.length ≤ 40 ∧ B.length ≤ 3000
  · obtain ⟨hn, hl, hb⟩ := h
    refine Ev_if ⟨hn, hl, hb⟩ ?_
    refine Ev.bind (rmay_yes hN hL (by omega) (by omega)) ?_
    exact kinds_j0 hN hL hB hn hl hb _ (fun e => by simpa using e)
  · refine Ev_else h ?_
    refine Ev.step (f := fun _ => some true) (fun k => ?_) (Ev.now _)
    simp only [embrasurelaw05_WireKinds.j0]
    rw [if_pos trivial]
theorem kinds_row (cs0 : Array Value) (x0 : MsgV) (a1 : Int) (w : World) (hr0 : dMsg.K w x0 (Value.agg cs0).cells.toList) (hw0 : okMsg x0) (ha : (Lit.int .i64 a1).wf = true) : Calls Try.prog 7 #[.agg cs0, .int .i64 a1] w fun e w' => e = .returned (.bool true) ∧ Below w.heap.size w w' := by
  obtain ⟨A1, c1, A2, c2, A3, c3, rfl, r1, r2, r3⟩ := msg_cells hr0
  obtain ⟨k, h⟩ := (kinds_yes (kind := x0.1) (a1 := a1) hw0.2.1 hw0.2.2.1 hw0.2.2.2).rounds
  exact embrasurelaw05_WireKinds.calls k x0.1 A1 c1 x0.2.1 A2 c2 x0.2.2.1 A3 c3 x0.2.2.2 a1 true w r1.1 r1.2 r2.1 r2.2 r3.1 r3.2 h
end Go.Proofs.Ytklcggcejaecdaa.J
