/-
  WireApart, out of its walk. Conditions: numbers are of their kinds, bytes are bytes.
-/
import Derived.Test.YtklcggcejaecdaaWx
namespace Go.Proofs.Ytklcggcejaecdaa.J
open Go.RowKit Go.Shelf Go.Proofs.Ytklcggcejaecdaa.Wi Go.Proofs.Ytklcggcejaecdaa.Uv Go.Proofs.Ytklcggcejaecdaa.Fr Go.Proofs.YtklcggcejaecdaaW.PrintWords Go.Proofs.YtklcggcejaecdaaW.PrintLast Go.Proofs.YtklcggcejaecdaaW.PrintMore
set_option linter.unusedVariables false
set_option linter.unusedSimpArgs false
theorem fromF_more {kind : Int} {N : List Int} {L : List AddrP} {B r : List Int} (hm : mayM kind N L B = true) (hN : Low N) (hL : Gd L) (hr : 1 ≤ r.length) : fromF (bytesM kind N L B ++ r) = badF := by
  obtain ⟨h1, h2, h3, h4, h5⟩ := may_split hm
  have hk := numsF_pos (by omega : 0 ≤ numsF kind)
  have e0 : bytesM kind N L B ++ r = putI kind ++ (flatN N ++ (putI L.length ++ (flatA L ++ (putI B.length ++ (B ++ r))))) := by
    unfold bytesM
    simp only [List.append_assoc]
  have e1 := numR_put kind (flatN N ++ (putI L.length ++ (flatA L ++ (putI B.length ++ (B ++ r))))) false (by omega) (by omega)
  rw [← e0] at e1
  have e2 := numsR_put N (putI L.length ++ (flatA L ++ (putI B.length ++ (B ++ r)))) false hN
  have en : (numsF kind).toNat = N.length := by omega
  rw [← en] at e2
  have e3 := numR_put L.length (flatA L ++ (putI B.length ++ (B ++ r))) false (by omega) (by omega)
  have e4 := addrsF_put L (putI B.length ++ (B ++ r)) false hL
  have e5 : bodyR (putI B.length ++ (B ++ r)) false = (B, true) := by
    unfold bodyR
    rw [getF_put B r (by omega)]
    have : (((putI (B.length : Int)).length : Int) + B.length != ((putI (B.length : Int) ++ (B ++ r)).length : Int)) = true := by
      rw [bne_iff_ne]
      simp only [List.length_append]
      omega
    simp only [this]
    simp
  rw [fromF_good e1 (by omega) e2 e3 (by omega) (by rw [Int.toNat_natCast]; exact e4) e5, if_pos (.inl rfl)]
theorem good_inj {l : List Int} {k0 k1 : Int} {N0 N1 : List Int} {L0 L1 : List AddrP} {B0 B1 : List Int} (h0 : Wi.Good l k0 N0 L0 B0) (h1 : Wi.Good l k1 N1 L1 B1) : k0 = k1 ∧ N0 = N1 ∧ L0 = L1 ∧ B0 = B1 := by
  have e := h0.from.symm.trans h1.from
  simp only [Prod.mk.injEq, and_true] at e
  exact e
theorem cut_bad {l : List Int} {kind : Int} {N : List Int} {L : List AddrP} {B : List Int} (h : Wi.Good l kind N L B) (hb : Bytes l) (i : Nat) (hi : i < l.length) : fromF (l.take i) = badF := by
  rcases fromF_cases (fun x hx => hb x (List.mem_of_mem_take hx) : Bytes (l.take i)) with ⟨k', N', L', B', hg, _⟩ | ⟨_, e⟩
  · exfalso
    have e := fromF_more hg.1 hg.2.1 hg.2.2.1 (r := l.drop i) (by rw [List.length_drop]; omega)
    rw [← hg.2.2.2, List.take_append_drop] at e
    exact badF_no (e.symm.trans h.from)
  · exact e
def smallB (x : MsgV) : Bool := decide (x.2.1.length ≤ 40 ∧ x.2.2.1.length ≤ 40 ∧ x.2.2.2.length ≤ 3000)
def MC (V : World) (x : MsgV) (A1 : Option Addr) (c1 : Nat) (A2 : Option Addr) (c2 : Nat) (A3 : Option Addr) (c3 : Nat) : Prop :=
  (Kd.C (Kd.int .u64) V A1 x.2.1.length x.2.1 ∧ x.2.1.length ≤ c1) ∧ (Kd.C k45 V A2 x.2.2.1.length x.2.2.1 ∧ x.2.2.1.length ≤ c2) ∧ (Kd.C (Kd.int .u8) V A3 x.2.2.2.length x.2.2.2 ∧ x.2.2.2.length ≤ c3)
theorem MC.below {w V : World} {x : MsgV} {A1 : Option Addr} {c1 : Nat} {A2 : Option Addr} {c2 : Nat} {A3 : Option Addr} {c3 : Nat} (h : MC w x A1 c1 A2 c2 A3 c3) (hb : Below w.heap.size w V) : MC V x A1 c1 A2 c2 A3 c3 :=
  ⟨⟨Kd.C_below h.1.1 hb, h.1.2⟩, ⟨Kd.C_below h.2.1.1 hb, h.2.1.2⟩, Kd.C_below h.2.2.1 hb, h.2.2.2⟩
section
variable {V : World} {x y : MsgV} {A1 : Option Addr} {c1 : Nat} {A2 : Option Addr} {c2 : Nat} {A3 : Option Addr} {c3 : Nat} {B1 : Option Addr} {d1 : Nat} {B2 : Option Addr} {d2 : Nat} {B3 : Option Addr} {d3 : Nat}
theorem small_c (h : MC V x A1 c1 A2 c2 A3 c3) : Calls Try.prog 10 #[.agg #[.int .i64 x.1, .slice A1 x.2.1.length c1, .slice A2 x.2.2.1.length c2, .slice A3 x.2.2.2.length c3]] V fun e w' => e = .returned (.bool (smallB x)) ∧ Below V.heap.size V w' :=
  embrasureref05_Small.calls x.1 A1 c1 x.2.1 A2 c2 x.2.2.1 A3 c3 x.2.2.2 _ V h.1.1 h.1.2 h.2.1.1 h.2.1.2 h.2.2.1 h.2.2.2 (small_f x.1 x.2.1 x.2.2.1 x.2.2.2)
theorem rmay_c (h : MC V x A1 c1 A2 c2 A3 c3) (hk : okMsg x) (hs : smallB x = true) : Calls Try.prog 13 #[.agg #[.int .i64 x.1, .slice A1 x.2.1.length c1, .slice A2 x.2.2.1.length c2, .slice A3 x.2.2.2.length c3]] V fun e w' => e = .returned (.bool (mayM x.1 x.2.1 (x.2.2.1.map prS) x.2.2.2)) ∧ Below V.heap.size V w' := by
  have hs := of_decide_eq_true hs
  obtain ⟨k, hf⟩ := (rmay_yes (kind := x.1) (B := x.2.2.2) hk.2.1 hk.2.2.1 (by omega) (by omega)).rounds
  exact embrasureref05_May.calls k x.1 A1 c1 x.2.1 A2 c2 x.2.2.1 A3 c3 x.2.2.2 _ V h.1.1 h.1.2 h.2.1.1 h.2.1.2 h.2.2.1 h.2.2.2 hf
theorem wbytes_c (h : MC V x A1 c1 A2 c2 A3 c3) (hk : okMsg x) (hs : smallB x = true) : Calls Try.prog 11 #[.agg #[.int .i64 x.1, .slice A1 x.2.1.length c1, .slice A2 x.2.2.1.length c2, .slice A3 x.2.2.2.length c3]] V fun e w' => ∃ v, e = .returned v ∧ (Kd.int .u8).R 5 w' V.heap.size (fun _ => True) v (bytesF x.1 x.2.1 (x.2.2.1.map prS) x.2.2.2) ∧ Below V.heap.size V w' := by
  have hs := of_decide_eq_true hs
  obtain ⟨k, hf⟩ := (wbytes_yes (kind := x.1) (B := x.2.2.2) hk.2.1 hk.2.2.1 (by omega) (by omega)).rounds
  exact wire_Bytes.calls k x.1 A1 c1 x.2.1 A2 c2 x.2.2.1 A3 c3 x.2.2.2 _ V h.1.1 h.1.2 h.2.1.1 h.2.1.2 h.2.2.1 h.2.2.2 hf
theorem rsame_c (h : MC V x A1 c1 A2 c2 A3 c3) (g : MC V y B1 d1 B2 d2 B3 d3) (hs : smallB x = true) : Calls Try.prog 19 #[.agg #[.int .i64 x.1, .slice A1 x.2.1.length c1, .slice A2 x.2.2.1.length c2, .slice A3 x.2.2.2.length c3], .agg #[.int .i64 y.1, .slice B1 y.2.1.length d1, .slice B2 y.2.2.1.length d2, .slice B3 y.2.2.2.length d3]] V fun e w' => e = .returned (.bool (decide (x.1 = y.1 ∧ x.2.1 = y.2.1 ∧ x.2.2.1.map prS = y.2.2.1.map prS ∧ x.2.2.2 = y.2.2.2))) ∧ Below V.heap.size V w' := by
  have hs := of_decide_eq_true hs
  obtain ⟨k, hf⟩ := (rsame_yes x.1 x.2.1 x.2.2.1 x.2.2.2 y.1 y.2.1 y.2.2.1 y.2.2.2 (by omega) (by omega) (by omega)).rounds
  exact embrasureref05_Same.calls k x.1 A1 c1 x.2.1 A2 c2 x.2.2.1 A3 c3 x.2.2.2 y.1 B1 d1 y.2.1 B2 d2 y.2.2.1 B3 d3 y.2.2.2 _ V h.1.1 h.1.2 h.2.1.1 h.2.1.2 h.2.2.1 h.2.2.2 g.1.1 g.1.2 g.2.1.1 g.2.1.2 g.2.2.1 g.2.2.2 hf
end
theorem good_of {x : MsgV} (hk : okMsg x) (hm : mayM x.1 x.2.1 (x.2.2.1.map prS) x.2.2.2 = true) : Wi.Good (bytesF x.1 x.2.1 (x.2.2.1.map prS) x.2.2.2) x.1 x.2.1 (x.2.2.1.map prS) x.2.2.2 ∧ Bytes (bytesF x.1 x.2.1 (x.2.2.1.map prS) x.2.2.2) ∧ 1 ≤ (bytesF x.1 x.2.1 (x.2.2.1.map prS) x.2.2.2).length := by
  obtain ⟨a1, a2, a3, a4, a5, a6, a7⟩ := may_parts hk.2.1 hk.2.2.1 hm
  rw [show bytesF x.1 x.2.1 (x.2.2.1.map prS) x.2.2.2 = bytesM x.1 x.2.1 (x.2.2.1.map prS) x.2.2.2 from if_pos hm]
  refine ⟨⟨hm, a1, a2, rfl⟩, bytesM_bytes (by omega) a1 hk.2.2.2, ?_⟩
  have := putI_pos x.1 (by omega)
  unfold bytesM
  rw [List.length_append]
  omega
theorem apart_row (cs0 : Array Value) (x0 : MsgV) (cs1 : Array Value) (x1 : MsgV) (t : Int) (w : World) (hr0 : dMsg.K w x0 (Value.agg cs0).cells.toList) (hw0 : okMsg x0) (hr1 : dMsg.K w x1 (Value.agg cs1).cells.toList) (hw1 : okMsg x1) (ht : (Lit.int .u16 t).wf = true) :
    Calls Try.prog 5 #[.agg cs0, .agg cs1, .int .u16 t] w fun e w' => e = .returned (.bool true) ∧ Below w.heap.size w w' := by
  obtain ⟨A1, c1, A2, c2, A3, c3, rfl, h0⟩ := msg_cells hr0
  obtain ⟨B1, d1, B2, d2, B3, d3, rfl, h1⟩ := msg_cells hr1
  have h0 : MC w x0 A1 c1 A2 c2 A3 c3 := h0
  have h1 : MC w x1 B1 d1 B2 d2 B3 d3 := h1
  obtain ⟨ka, hka⟩ := awake_yes.rounds
  have ht := wf_bd ht (lo := 0) (hi := 65535) (by decide) (by decide)
  refine apart_walk w x0.1 A1 x0.2.1.length c1 A2 x0.2.2.1.length c2 A3 x0.2.2.2.length c3 x1.1 B1 x1.2.1.length d1 B2 x1.2.2.1.length d2 B3 x1.2.2.2.length d3 t (smallB x0) (smallB x1) (mayM x0.1 x0.2.1 (x0.2.2.1.map prS) x0.2.2.2) (mayM x1.1 x1.2.1 (x1.2.2.1.map prS) x1.2.2.2)
    (bytesF x0.1 x0.2.1 (x0.2.2.1.map prS) x0.2.2.2) (bytesF x1.1 x1.2.1 (x1.2.2.1.map prS) x1.2.2.2) (decide (x0.1 = x1.1 ∧ x0.2.1 = x1.2.1 ∧ x0.2.2.1.map prS = x1.2.2.1.map prS ∧ x0.2.2.2 = x1.2.2.2)) (t % ((bytesF x0.1 x0.2.1 (x0.2.2.1.map prS) x0.2.2.2).length : Int)).toNat
    (fun V => embrasurelaw05_awake.calls ka true V hka) (fun V hV => small_c (h0.below hV)) (fun V hV => small_c (h1.below hV)) (fun s0 _ V hV => rmay_c (h0.below hV) hw0 s0) (fun _ s1 V hV => rmay_c (h1.below hV) hw1 s1) ?_
  intro s0 s1 m0 m1
  obtain ⟨g0, gb, gl⟩ := good_of hw0 m0
  obtain ⟨g1, _, _⟩ := good_of hw1 m1
  refine ⟨fun V hV => wbytes_c (h0.below hV) hw0 s0, fun V hV => wbytes_c (h1.below hV) hw1 s1, fun V hV => rsame_c (h0.below hV) (h1.below hV) s0, ?_, bytesF_len _ _ _ _, ?_, ?_, gb, ?_, ?_⟩
  · by_cases e : x0.1 = x1.1 ∧ x0.2.1 = x1.2.1 ∧ x0.2.2.1.map prS = x1.2.2.1.map prS ∧ x0.2.2.2 = x1.2.2.2
    · rw [decide_eq_true e, decide_eq_true]
      rw [e.1, e.2.1, e.2.2.1, e.2.2.2]
    · rw [decide_eq_false e, decide_eq_false]
      intro h
      rw [← h] at g1
      exact e (good_inj g0 g1)
  · have := Int.emod_lt_of_pos t (by omega : 0 < ((bytesF x0.1 x0.2.1 (x0.2.2.1.map prS) x0.2.2.2).length : Int))
    have := Int.emod_nonneg t (by omega : ((bytesF x0.1 x0.2.1 (x0.2.2.1.map prS) x0.2.2.2).length : Int) ≠ 0)
    omega
  · have := Int.emod_nonneg t (by omega : ((bytesF x0.1 x0.2.1 (x0.2.2.1.map prS) x0.2.2.2).length : Int) ≠ 0)
    rw [wr t (by omega) (by omega), Int.tmod_eq_emod_of_nonneg ht.1]
    omega
  · refine cut_bad g0 gb _ ?_
    have := Int.emod_lt_of_pos t (by omega : 0 < ((bytesF x0.1 x0.2.1 (x0.2.2.1.map prS) x0.2.2.2).length : Int))
    have := Int.emod_nonneg t (by omega : ((bytesF x0.1 x0.2.1 (x0.2.2.1.map prS) x0.2.2.2).length : Int) ≠ 0)
    omega
  · have := fromF_more g0.1 g0.2.1 g0.2.2.1 (r := [t % 256]) (Nat.le_refl _)
    rw [← g0.2.2.2] at this
    exact this
end Go.Proofs.Ytklcggcejaecdaa.J
