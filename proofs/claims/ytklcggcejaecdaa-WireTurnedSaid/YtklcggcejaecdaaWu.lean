/-
  WireTurned, out of what its functions come to. Conditions: numbers are of their kinds, bytes are bytes.
-/
import Derived.Test.YtklcggcejaecdaaWo
import Derived.Test.YtklcggcejaecdaaWqs
import Derived.Test.YtklcggcejaecdaaJx12
import Derived.Laws.BitsAllLaws
namespace Go.Proofs.Ytklcggcejaecdaa.J
open Go.RowKit Go.Shelf Go.Proofs.Ytklcggcejaecdaa.Wi Go.Proofs.Ytklcggcejaecdaa.Uv Go.Proofs.Ytklcggcejaecdaa.Fr Go.Proofs.YtklcggcejaecdaaW.PrintWords Go.Proofs.YtklcggcejaecdaaW.PrintLast Go.Proofs.YtklcggcejaecdaaW.PrintMore
set_option linter.unusedVariables false
set_option linter.unusedSimpArgs false
/-! ### WireTurned -/
theorem xor_facts {a b : Int} (h0 : 0 ≤ a) (h1 : a ≤ 255) (h2 : 0 ≤ b) (h3 : b ≤ 255) : (0 ≤ Go.bits .xor .u8 a b ∧ Go.bits .xor .u8 a b ≤ 255) ∧ (Go.bits .xor .u8 a b = a ↔ b = 0) := by
  rw [u8_xor a b h0 (by omega) h2 (by omega)]
  obtain ⟨m, rfl⟩ := Int.eq_ofNat_of_zero_le h0
  obtain ⟨n, rfl⟩ := Int.eq_ofNat_of_zero_le h2
  have hlt := Nat.xor_lt_two_pow (x := m) (y := n) (n := 8) (by omega) (by omega)
  simp only [Int.toNat_natCast]
  refine ⟨by omega, fun h => ?_, fun h => ?_⟩
  · have h : m ^^^ n = m := by omega
    have h' : m ^^^ (m ^^^ n) = m ^^^ m := by rw [h]
    rw [← Nat.xor_assoc, Nat.xor_self, Nat.zero_xor] at h'
    omega
  · have h : n = 0 := by omega
    rw [h, Nat.xor_zero]
theorem turned_j0 {kind a1 a2 : Int} {N : List Int} {L : List S45} {B : List Int} (hN : InN N) (hL : InS L) (hB : Bytes B) (hn : N.length ≤ 40) (hl : L.length ≤ 40) (hb : B.length ≤ 3000) (ha : 0 ≤ a1 ∧ a1 ≤ 65535) (hx2 : 0 ≤ a2 ∧ a2 ≤ 255) (x : Bool) (hx : x = false → mayM kind N (L.map prS) B = true) : Ev (fun k => embrasurelaw05_WireTurned.j0 k a1 a2 x kind N L B) true := by
  cases x with
  | true =>
    refine Ev.step (f := fun _ => some true) (fun k => ?_) (Ev.now _)
    simp only [embrasurelaw05_WireTurned.j0]
    rw [if_pos trivial]
  | false =>
    have hm := hx rfl
    have W0 := wbytes_yes (kind := kind) (B := B) hN hL (by omega) (by omega)
    rw [show bytesF kind N (L.map prS) B = bytesM kind N (L.map prS) B from if_pos hm] at W0
    obtain ⟨g1, g2, g3, g4, g5, k0, k1⟩ := may_parts hN hL hm
    have hlen := bytesM_len hm
    have hby : Bytes (bytesM kind N (L.map prS) B) := bytesM_bytes (by omega) g1 hB
    have hpos : 1 ≤ (bytesM kind N (L.map prS) B).length := by
      have := putI_pos kind (by omega)
      unfold bytesM
      rw [List.length_append]
      omega
    have hG : Wi.Good (bytesM kind N (L.map prS) B) kind N (L.map prS) B := ⟨hm, g1, g2, rfl⟩
    obtain ⟨t, ht⟩ : ∃ t, bytesM kind N (L.map prS) B = t := ⟨_, rfl⟩
    rw [ht] at W0 hlen hby hpos hG
    have hi0 : 0 ≤ Int.tmod (wrap64 a1) (t.length : Int) ∧ Int.tmod (wrap64 a1) (t.length : Int) < t.length := by
      rw [wr a1 (by omega) (by omega), Int.tmod_eq_emod_of_nonneg ha.1]
      exact ⟨Int.emod_nonneg _ (by omega), Int.emod_lt_of_pos _ (by omega)⟩
    obtain ⟨i, hi⟩ := Int.eq_ofNat_of_zero_le hi0.1
    have hil : i < t.length := by omega
    have hti := hby t[i] (List.getElem_mem hil)
    obtain ⟨hb1, hb2⟩ := xor_facts hti.1 hti.2 hx2.1 hx2.2
    have hby2 : Bytes (t.set i (Go.bits .xor .u8 t[i] a2)) := by
      intro y hy
      rcases List.mem_or_eq_of_mem_set hy with h | h
      · exact hby y h
      · rw [h]; exact hb1
    have hfr : wire_FromBytes.f (t.set i (Go.bits .xor .u8 t[i] a2)) = _ := from_f hby2 (by rw [List.length_set]; omega)
    refine Ev.step (f := fun k => (wire_Bytes.f k kind N L B).bind fun t389 => (if (t389.length : Int) = 0 then (some false) else (if 0 ≤ (Int.tmod (wrap64 (a1)) (t389.length : Int)) then (if (Int.tmod (wrap64 (a1)) (t389.length : Int)) < (t389.length : Int) then ((wire_FromBytes.f (t389.set ((Int.tmod (wrap64 (a1)) (t389.length : Int)) : Int).toNat (Go.bits .xor .u8 (rd t389 (Int.tmod (wrap64 (a1)) (t389.length : Int))) a2))).bind fun bt394 => (if bt394.2.2.2.2 = 0 then ((embrasureref05_Same.f k bt394.1 bt394.2.1 bt394.2.2.1 bt394.2.2.2.1 kind N L B).bind fun t406 => (some (t406 == (a2 == 0)))) else (some (false == (a2 == 0))))) else (none)) else (none)))) (fun k => ?_) ?_
    · simp only [embrasurelaw05_WireTurned.j0]
      rw [if_neg (by simp)]
    · refine Ev.bind W0 ?_
      refine Ev_else (by omega) (Ev_if hi0.1 (Ev_if hi0.2 ?_))
      rw [hi, Int.toNat_natCast, rd_get t i hil, hfr]
      simp only [Option.bind_some]
      by_cases hz : a2 = 0
      · have e0 : t.set i (Go.bits .xor .u8 t[i] a2) = t := by rw [hb2.2 hz, List.set_getElem_self]
        rw [e0, hG.from]
        dsimp only
        rw [map_mkS]
        refine Ev_if rfl ?_
        have := rsame_yes kind N L B kind N L B (by omega) (by omega) (by omega)
        simp only [and_self, decide_true] at this
        refine Ev.bind this ?_
        rw [hz]
        exact Ev.now _
      · have e0 : t.set i (Go.bits .xor .u8 t[i] a2) ≠ t := fun e => hz (hb2.1 (by
          have h1 : (t.set i (Go.bits .xor .u8 t[i] a2))[i]'(by rw [List.length_set]; exact hil) = Go.bits .xor .u8 t[i] a2 := List.getElem_set_self _
          rw [← h1]
          congr 1))
        have hz2 : (a2 == 0) = false := by simpa using hz
        rw [hz2]
        rcases fromF_cases hby2 with ⟨k', N', L', B', hG', e⟩ | ⟨_, e⟩
        · rw [e]
          dsimp only
          refine Ev_if rfl ?_
          obtain ⟨m1, m2, m3, m4, m5⟩ := may_split hG'.1
          have m6 := numsF_le k'
          have := rsame_yes k' N' (L'.map mkS) B' kind N L B (by omega) (by rw [List.length_map]; omega) (by omega)
          rw [map_prS, decide_eq_false (fun h => by
            obtain ⟨rfl, rfl, rfl, rfl⟩ := h
            exact e0 (hG'.2.2.2.trans hG.2.2.2.symm))] at this
          exact Ev.bind this (Ev.now _)
        · rw [e]
          exact Ev.now _
theorem turned_yes {kind a1 a2 : Int} {N : List Int} {L : List S45} {B : List Int} (hN : InN N) (hL : InS L) (hB : Bytes B) (ha : 0 ≤ a1 ∧ a1 ≤ 65535) (hx2 : 0 ≤ a2 ∧ a2 ≤ 255) : Ev (fun k => embrasurelaw05_WireTurned.f k kind N L B a1 a2) true := by
  unfold embrasurelaw05_WireTurned.f
  refine Ev.bind awake_yes ?_
  refine Ev_if rfl ?_
  simp only [small_f, Option.bind_some, decide_eq_true_eq]
  by_cases h : N.length ≤ 40 ∧ L.length ≤ 40 ∧ B.length ≤ 3000
  · obtain ⟨hn, hl, hb⟩ := h
    refine Ev_if ⟨hn, hl, hb⟩ ?_
    refine Ev.bind (rmay_yes hN hL (by omega) (by omega)) ?_
    exact turned_j0 hN hL hB hn hl hb ha hx2 _ (fun e => by simpa using e)
  · refine Ev_else h ?_
    refine Ev.step (f := fun _ => some true) (fun k => ?_) (Ev.now _)
    simp only [embrasurelaw05_WireTurned.j0]
    rw [if_pos trivial]
theorem turned_row (cs0 : Array Value) (x0 : MsgV) (a1 a2 : Int) (w : World) (hr0 : dMsg.K w x0 (Value.agg cs0).cells.toList) (hw0 : okMsg x0) (ha : (Lit.int .u16 a1).wf = true) (ha2 : (Lit.int .u8 a2).wf = true) : Calls Try.prog 8 #[.agg cs0, .int .u16 a1, .int .u8 a2] w fun e w' => e = .returned (.bool true) ∧ Below w.heap.size w w' := by
  obtain ⟨A1, c1, A2, c2, A3, c3, rfl, r1, r2, r3⟩ := msg_cells hr0
  obtain ⟨k, h⟩ := (turned_yes (kind := x0.1) (a1 := a1) (a2 := a2) hw0.2.1 hw0.2.2.1 hw0.2.2.2 (wf_bd ha (by decide) (by decide)) (wf_bd ha2 (by decide) (by decide))).rounds
  exact embrasurelaw05_WireTurned.calls k x0.1 A1 c1 x0.2.1 A2 c2 x0.2.2.1 A3 c3 x0.2.2.2 a1 a2 true w r1.1 r1.2 r2.1 r2.2 r3.1 r3.2 h
end Go.Proofs.Ytklcggcejaecdaa.J
