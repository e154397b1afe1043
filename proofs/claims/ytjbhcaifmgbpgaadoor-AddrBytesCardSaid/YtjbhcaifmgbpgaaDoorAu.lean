/-
  addr: what came in, read: places, addresses, two bytes, rows of bytes. Conditions: as the theorems state them.
-/
import Derived.Test.YtjbhcaifmgbpgaaDoorAr
import Derived.Test.YtjbhcaifmgbpgaaDoorBa
import Derived.Test.YtjbhcaifmgbpgaaDoorOp
import Derived.Test.YtjbhcaifmgbpgaaDoorTie
import Derived.Test.YtjbhcaifmgbpgaaDoorCards
import Derived.SevenTiedAt
import Derived.ShutString
import Derived.Below
import Derived.Lib.SmallJoins
namespace Go.Proofs.YtjbhcaifmgbpgaaDoor.Ad
open Go Go.ChangeShapes Go.WideShapes Go.ChangeAt Go.RowKit Go.Proofs.YtjbhcaifmgbpgaaDoorW.PrintWords Go.Proofs.YtjbhcaifmgbpgaaDoorW.PrintMore
set_option linter.unusedVariables false
theorem laidOutA : laidOutB Tryd.prog = true := by kernel_rfl
theorem open_arr_ints {H : Type} {enc : TypeId × Value → H} {P : Program} {w : World} {base b0 : Nat} {spare : Nat → Bool} {held : Bool} {r : Reach} {t e n : Nat} {q : IntKind} {v : Value} {d : DataW H} {p : List MemPlace} (ht : P.underlying t = some (.array n e)) (he : P.underlying e = some (.int q)) (hc : P.cellsOf e = 1) (hn : P.cellsOf t = n)
    (hv : Value.okWide P w r b0 t v) (h : DataW.Trod enc P w base spare held t v d p) : ∃ zs : List Int, v = .agg (zs.map (Value.int q)).toArray ∧ zs.length = n ∧ ∀ z ∈ zs, (Lit.int q z).wf = true := by
  unfold Value.okWide at hv
  rw [ht] at hv
  obtain ⟨cs, rfl, hsz, _⟩ := hv
  obtain ⟨fuel, hf⟩ := h
  obtain ⟨xs, m, _, _, hl, hxl, hel⟩ := DataW.trod_array ht hf
  have key : ∀ i : Nat, i < n → ∃ a, cs[i]? = some (.int q a) ∧ (Lit.int q a).wf = true := by
    intro i hi
    have hE := hel i hi
    rw [hc, Nat.mul_one, List.getElem?_eq_getElem (by omega)] at hE
    obtain ⟨z, e1, _, e3⟩ := DataW.trod_int he hE
    refine ⟨z, ?_, e3⟩
    have h0 : ((cs.toList.drop i).take 1)[0]? = some (.int q z) := by
      have e1' : ((Value.agg cs).cells.toList.drop i).take 1 = [.int q z] := e1
      simp only [Value.cells] at e1'
      rw [e1']; rfl
    simpa using h0
  refine ⟨(List.range n).map (fun i => (cs[i]?.map intOf).getD 0), ?_, by simp, ?_⟩
  · congr 1
    apply Array.ext_getElem?
    intro i
    by_cases hi : i < n
    · obtain ⟨a, ha, _⟩ := key i hi
      rw [ha]
      simp [hi, ha, intOf]
    · rw [Array.getElem?_eq_none (by omega)]
      simp [hi]
  · intro z hz
    simp only [List.mem_map, List.mem_range] at hz
    obtain ⟨i, hi, rfl⟩ := hz
    obtain ⟨a, ha, hw⟩ := key i hi
    rw [ha]
    exact hw
theorem wf_bdA {k : IntKind} {x lo hi : Int} (h : (Lit.int k x).wf = true) (h1 : lo ≤ k.min) (h2 : k.max ≤ hi) : lo ≤ x ∧ x ≤ hi := by
  simp [Lit.wf] at h
  omega
abbrev AdV := Int × Int
abbrev PlV := AdV × Int × Bool
def dAd : Kd AdV := Kd.pair (Kd.int .u32) (Kd.int .i64)
def dPl : Kd PlV := Kd.pair dAd (Kd.pair (Kd.int .i64) Kd.bool)
def I64 (p : Int) : Prop := -9223372036854775808 ≤ p ∧ p ≤ 9223372036854775807
theorem opens_adr : Op.Opens Tryd.prog 24 dAd (fun x => U32 x.1 ∧ I64 x.2) :=
  Op.opens_mono (Op.opens_struct Tryd.underlying24 (by kernel_rfl) (Op.opensF_cons rfl (by kernel_rfl) (Op.opens_int Tryd.underlying22) (Op.opensF_one rfl (by kernel_rfl) (Op.opens_int Tryd.underlying3))))
    (fun y h => ⟨wf_bdA h.1 (by decide) (by decide), wf_bdA h.2 (by decide) (by decide)⟩)
theorem opens_plc : Op.Opens Tryd.prog 26 dPl (fun x => U32 x.1.1 ∧ I64 x.1.2 ∧ I64 x.2.1) :=
  Op.opens_mono (Op.opens_struct Tryd.underlying26 (by kernel_rfl) (Op.opensF_cons rfl (by kernel_rfl) opens_adr (Op.opensF_cons rfl (by kernel_rfl) (Op.opens_int Tryd.underlying3) (Op.opensF_one rfl (by kernel_rfl) (Op.opens_bool Tryd.underlying4)))))
    (fun y h => ⟨h.1.1, h.1.2, wf_bdA h.2.1 (by decide) (by decide)⟩)
theorem cells_adr {w : World} {cs : Array Value} {x : AdV} (h : dAd.K w x (Value.agg cs).cells.toList) : cs = #[.int .u32 x.1, .int .i64 x.2] := by
  obtain ⟨_, _, h, rfl, rfl⟩ := h
  exact Array.toList_inj.1 h
theorem cells_plc {w : World} {cs : Array Value} {x : PlV} (h : dPl.K w x (Value.agg cs).cells.toList) : cs = #[.int .u32 x.1.1, .int .i64 x.1.2, .int .i64 x.2.1, .bool x.2.2] := by
  obtain ⟨_, _, h, ⟨_, _, rfl, rfl, rfl⟩, _, _, rfl, rfl, rfl⟩ := h
  exact Array.toList_inj.1 h
theorem list2A {l : List Int} (h : l.length = 2) : ∃ a b, l = [a, b] := by
  match l, h with
  | [a, b], _ => exact ⟨a, b, rfl⟩
theorem opens_u8s : Op.Opens Tryd.prog 38 (Kd.slice 5 (Kd.int .u8)) (fun xs => xs.length ≤ maxLen ∧ ∀ x ∈ xs, (Lit.int .u8 x).wf = true) := Op.opens_slice Tryd.underlying38 (by kernel_rfl) (Op.opens_int Tryd.underlying5)
end Go.Proofs.YtjbhcaifmgbpgaaDoor.Ad
