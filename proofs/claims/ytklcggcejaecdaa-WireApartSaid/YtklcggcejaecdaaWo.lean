/-
  Laws over a message: what came in, read. Condition: none.
-/
import Derived.Test.YtklcggcejaecdaaWq
import Derived.Test.YtklcggcejaecdaaOp
namespace Go.Proofs.Ytklcggcejaecdaa.J
open Go.RowKit Go.Shelf Go.Proofs.Ytklcggcejaecdaa.Wi Go.Proofs.Ytklcggcejaecdaa.Uv Go.Proofs.Ytklcggcejaecdaa.Fr Go.Proofs.YtklcggcejaecdaaW.PrintWords Go.Proofs.YtklcggcejaecdaaW.PrintLast Go.Proofs.YtklcggcejaecdaaW.PrintMore
set_option linter.unusedVariables false
set_option linter.unusedSimpArgs false
theorem wf_bd {k : IntKind} {x lo hi : Int} (h : (Lit.int k x).wf = true) (h1 : lo ≤ k.min) (h2 : k.max ≤ hi) : lo ≤ x ∧ x ≤ hi := by
  simp [Lit.wf] at h
  omega
abbrev MsgV := Int × List Int × List S45 × List Int
def dMsg : Kd MsgV := Kd.pair (Kd.int .i64) (Kd.pair (Kd.slice 39 (Kd.int .u64)) (Kd.pair (Kd.slice 45 k45) (Kd.slice 5 (Kd.int .u8))))
def okMsg (x : MsgV) : Prop := (-9223372036854775808 ≤ x.1 ∧ x.1 ≤ 9223372036854775807) ∧ InN x.2.1 ∧ InS x.2.2.1 ∧ Bytes x.2.2.2
theorem opens_pair : Op.Opens Try.prog 45 (Kd.pair (Kd.int .u32) (Kd.int .i64)) okA :=
  Op.opens_mono (Op.opens_struct Try.underlying45 (by kernel_rfl) (Op.opensF_cons rfl (by kernel_rfl) (Op.opens_int Try.underlying43) (Op.opensF_one rfl (by kernel_rfl) (Op.opens_int Try.underlying3))))
    (fun y h => ⟨wf_bd h.1 (by decide) (by decide), wf_bd h.2 (by decide) (by decide)⟩)
theorem opens_Addr : Op.Opens Try.prog 45 k45 (fun x => okA (prS x)) := fun enc w base spare held fuel cs x hx => by
  obtain ⟨y, hy, hG⟩ := opens_pair enc w base spare held fuel cs x hx
  exact ⟨mkS y, hy, hG⟩
theorem opens_Msg : Op.Opens Try.prog 26 dMsg okMsg :=
  Op.opens_mono (Op.opens_struct Try.underlying26 (by kernel_rfl)
    (Op.opensF_cons rfl (by kernel_rfl) (Op.opens_int Try.underlying3)
      (Op.opensF_cons rfl (by kernel_rfl) (Op.opens_slice Try.underlying22 (by kernel_rfl) (Op.opens_int Try.underlying39))
        (Op.opensF_cons rfl (by kernel_rfl) (Op.opens_slice Try.underlying23 (by kernel_rfl) opens_Addr)
          (Op.opensF_one rfl (by kernel_rfl) (Op.opens_slice Try.underlying24 (by kernel_rfl) (Op.opens_int Try.underlying5)))))))
    (fun y h => ⟨wf_bd h.1 (by decide) (by decide), fun v hv => wf_bd (h.2.1.2 v hv) (by decide) (by decide), h.2.2.1.2, fun v hv => wf_bd (h.2.2.2.2 v hv) (by decide) (by decide)⟩)
theorem msg_cells {w : World} {cs : Array Value} {x : MsgV} (h : dMsg.K w x (Value.agg cs).cells.toList) : ∃ A1 c1 A2 c2 A3 c3, cs = #[.int .i64 x.1, .slice A1 x.2.1.length c1, .slice A2 x.2.2.1.length c2, .slice A3 x.2.2.2.length c3] ∧
    (Kd.C (Kd.int .u64) w A1 x.2.1.length x.2.1 ∧ x.2.1.length ≤ c1) ∧ (Kd.C k45 w A2 x.2.2.1.length x.2.2.1 ∧ x.2.2.1.length ≤ c2) ∧ (Kd.C (Kd.int .u8) w A3 x.2.2.2.length x.2.2.2 ∧ x.2.2.2.length ≤ c3) := by
  obtain ⟨_, _, h, rfl, _, _, rfl, ⟨A1, c1, rfl, h1, r1⟩, _, _, rfl, ⟨A2, c2, rfl, h2, r2⟩, A3, c3, rfl, h3, r3⟩ := h
  refine ⟨A1, c1, A2, c2, A3, c3, ?_, ⟨r1, h1⟩, ⟨r2, h2⟩, r3, h3⟩
  exact Array.toList_inj.1 h
theorem same_f {a b : List Int} (h : a.length ≤ 140737488355328) : embrasureref01_Same.f a b = some (decide (a = b)) := if_pos h
theorem nums_f (a : Int) : wire_Nums.f a = some (numsF a) := rfl
theorem bytesF_len (kind : Int) (N : List Int) (L : List AddrP) (B : List Int) : (bytesF kind N L B).length ≤ 2000 := by
  unfold bytesF
  split
  · rename_i h
    exact bytesM_len h
  · simp
theorem from_put {kind : Int} {N : List Int} {L : List S45} {B : List Int} (hN : InN N) (hL : InS L) (hB : Bytes B) (hm : mayM kind N (L.map prS) B = true) : wire_FromBytes.f (bytesM kind N (L.map prS) B) = some (kind, N, L, B, 0) := by
  obtain ⟨a1, a2, a3, a4, a5, a6, a7⟩ := may_parts hN hL hm
  have hl := bytesM_len hm
  rw [from_f (bytesM_bytes (by omega) a1 hB) (by omega), fromF_put hm a1 a2]
  dsimp only
  rw [map_mkS]
/-- The law's way in: awake, and the message is small. -/
theorem law_in {β : Type} {kind : Int} {N : List Int} {L : List S45} {B : List Int} {f g : Nat → Option β} {r s : β} (hsm : N.length ≤ 40 ∧ L.length ≤ 40 ∧ B.length ≤ 3000 → Ev f r) (hno : ¬ (N.length ≤ 40 ∧ L.length ≤ 40 ∧ B.length ≤ 3000) → Ev g r) :
    Ev (fun k => (embrasurelaw05_awake.f k).bind fun t => if t = true then ((embrasureref05_Small.f kind N L B).bind fun t' => if t' = true then f k else g k) else some s) r := by
  refine Ev.bind awake_yes ?_
  refine Ev_if rfl ?_
  simp only [small_f, Option.bind_some, decide_eq_true_eq]
  by_cases h : N.length ≤ 40 ∧ L.length ≤ 40 ∧ B.length ≤ 3000
  · exact Ev_if h (hsm h)
  · exact Ev_else h (hno h)
end Go.Proofs.Ytklcggcejaecdaa.J
