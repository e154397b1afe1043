/-
  What came in, read: whatever value of a type can be read has its cells as the kind says. For laws whose parameters are rows of structs, or structs. No condition.
-/
import Derived.Test.YtjbhcaifmgbpgaaDoorProg
import Derived.WalkKit
import Derived.ProofKit
import Derived.OpenShut
import Derived.ShutString
import Derived.ChangeOld
import Derived.Below
import Derived.SizedLaws
import Derived.Lib.SmallJoins
import Derived.DataReads
import Derived.DataElems
import Derived.Test.YtjbhcaifmgbpgaaDoorWSized
import Derived.Test.YtjbhcaifmgbpgaaDoorWWords
import Derived.Test.YtjbhcaifmgbpgaaDoorWMore
namespace Go.Proofs.YtjbhcaifmgbpgaaDoor.Op
open Go.ChangeShapes Go.WideShapes Go.ChangeAt Go.RowKit Go.Proofs.YtjbhcaifmgbpgaaDoorW.PrintWords Go.Proofs.YtjbhcaifmgbpgaaDoorW.PrintMore
set_option linter.unusedVariables false

def Opens {α : Type} (P : Program) (t : TypeId) (d : Kd α) (G : α → Prop) : Prop :=
  ∀ {H : Type} (enc : TypeId × Value → H) (w : World) (base : Nat) (spare : Nat → Bool) (held : Bool) (fuel : Nat) (cs : List Value) (x : DataW H × List MemPlace),
    DataW.trod enc P w base spare held fuel t cs = some x → ∃ y, d.K w y cs ∧ G y
theorem opens_mono {α : Type} {P : Program} {t : TypeId} {d : Kd α} {G G' : α → Prop} (h : Opens P t d G) (hg : ∀ y, G y → G' y) : Opens P t d G' := fun enc w base spare held fuel cs x hx => by
  obtain ⟨y, hy, hG⟩ := h enc w base spare held fuel cs x hx
  exact ⟨y, hy, hg y hG⟩
theorem opens_int {P : Program} {t : TypeId} {k : IntKind} (ht : P.underlying t = some (.int k)) : Opens P t (Kd.int k) (fun n => (Lit.int k n).wf = true) := fun enc w base spare held fuel cs x hx => by
  obtain ⟨n, rfl, _, hw⟩ := DataW.trod_int ht hx
  exact ⟨n, rfl, hw⟩
theorem opens_bool {P : Program} {t : TypeId} (ht : P.underlying t = some .bool) : Opens P t Kd.bool (fun _ => True) := fun enc w base spare held fuel cs x hx => by
  obtain ⟨n, rfl, _⟩ := DataW.trod_bool ht hx
  exact ⟨n, rfl, trivial⟩
theorem opens_string {P : Program} {t : TypeId} (ht : P.underlying t = some .string) : Opens P t Kd.string (fun s => s.size ≤ maxLen) := fun enc w base spare held fuel cs x hx => by
  obtain ⟨n, rfl, _, hs⟩ := DataW.trod_string ht hx
  exact ⟨n, rfl, hs⟩
theorem list_of {α : Type} {Q : Nat → α → Prop} : ∀ (n : Nat), (∀ i, i < n → ∃ y, Q i y) → ∃ ys : List α, ys.length = n ∧ ∀ j p, ys[j]? = some p → Q j p
  | 0, _ => ⟨[], rfl, fun j p h => by simp at h⟩
  | n + 1, h => by
    obtain ⟨ys, hl, hq⟩ := list_of n (fun i hi => h i (by omega))
    obtain ⟨y, hy⟩ := h n (by omega)
    refine ⟨ys ++ [y], by simp [hl], fun j p hj => ?_⟩
    by_cases hjn : j < n
    · rw [List.getElem?_append_left (by omega)] at hj; exact hq j p hj
    · have hl2 := (List.getElem?_eq_some_iff.1 hj).1
      simp [hl] at hl2
      obtain rfl : j = n := by omega
      rw [List.getElem?_append_right (by omega), hl, Nat.sub_self] at hj
      simp at hj
      subst hj; exact hy
theorem opens_slice {α : Type} {P : Program} {t e : TypeId} {d : Kd α} {G : α → Prop} (ht : P.underlying t = some (.slice e)) (hs : P.cellsOf e = d.sz) (ho : Opens P e d G) :
    Opens P t (Kd.slice e d) (fun xs => xs.length ≤ maxLen ∧ ∀ x ∈ xs, G x) := fun enc w base spare held fuel cs x hx => by
  rcases DataW.trod_slice ht hx with ⟨rfl, _⟩ | ⟨a, len, cap, elems, rest, n, _, rfl, _, hb, hlc, hcm, hel, hE, _⟩
  · exact ⟨[], ⟨none, 0, rfl, Nat.le_refl _, Kd.C_nil d w⟩, by simp, fun x hx => by simp at hx⟩
  · have key : ∀ i, i < len → ∃ y : α, (∃ c : List Value, c.length = d.sz ∧ d.K w y c ∧ ∀ j u, c[j]? = some u → w.cell? (a.add (i * d.sz + j)) = some u) ∧ G y := fun i hi => by
      have h1 := hE i hi
      obtain ⟨z, hz⟩ : ∃ z, elems[i]? = some z := ⟨_, List.getElem?_eq_getElem (by omega)⟩
      rw [hz] at h1
      obtain ⟨c, hc, hc2⟩ := Option.bind_eq_some_iff.1 h1
      obtain ⟨y, hy, hG⟩ := ho enc w base spare held n c z hc2
      have hcl := d.K_len hy
      have hcc := World.cells?_some hc
      refine ⟨y, ⟨c, hcl, hy, fun j u hj => ?_⟩, hG⟩
      have hj2 := (List.getElem?_eq_some_iff.1 hj).1
      rw [hs] at hcc
      rw [← Addr.add_add, hcc.2.2 j (by omega)]
      exact hj
    obtain ⟨ys, hl, hq⟩ := list_of len key
    refine ⟨ys, ⟨some a, cap, by rw [hl], by omega, ?_⟩, by omega, fun y hy => ?_⟩
    · exact ⟨rfl, by unfold maxLen at hcm; omega, fun _ => ⟨a, rfl, fun j p hj => (hq j p hj).1⟩⟩
    · obtain ⟨j, hj, e⟩ := List.mem_iff_getElem.1 hy
      exact (hq j y (by rw [List.getElem?_eq_getElem hj, e])).2

/-- Fields in line, from cell off on. -/
def OpensF {α : Type} (P : Program) (fs : List Field) (off : Nat) (d : Kd α) (G : α → Prop) : Prop :=
  ∀ {H : Type} (enc : TypeId × Value → H) (w : World) (base : Nat) (spare : Nat → Bool) (held : Bool) (fuel : Nat) (cs : List Value),
    (∀ f ∈ fs, ∃ x, DataW.trod enc P w base spare held fuel f.type ((cs.drop f.offset).take (P.cellsOf f.type)) = some x) → ∃ y, d.K w y ((cs.drop off).take d.sz) ∧ G y
theorem opensF_one {α : Type} {P : Program} {f : Field} {off : Nat} {d : Kd α} {G : α → Prop} (h1 : f.offset = off) (h2 : P.cellsOf f.type = d.sz) (ho : Opens P f.type d G) : OpensF P [f] off d G := fun enc w base spare held fuel cs hx => by
  obtain ⟨x, hx⟩ := hx f (by simp)
  rw [h1, h2] at hx
  exact ho enc w base spare held fuel _ x hx
theorem opensF_cons {α β : Type} {P : Program} {f : Field} {fs : List Field} {off : Nat} {a : Kd α} {b : Kd β} {Ga : α → Prop} {Gb : β → Prop} (h1 : f.offset = off) (h2 : P.cellsOf f.type = a.sz) (ho : Opens P f.type a Ga) (hr : OpensF P fs (off + a.sz) b Gb) :
    OpensF P (f :: fs) off (Kd.pair a b) (fun x => Ga x.1 ∧ Gb x.2) := fun enc w base spare held fuel cs hx => by
  obtain ⟨x, hx0⟩ := hx f (by simp)
  rw [h1, h2] at hx0
  obtain ⟨y, hy, hG⟩ := ho enc w base spare held fuel _ x hx0
  obtain ⟨z, hz, hG2⟩ := hr enc w base spare held fuel cs (fun g hg => hx g (by simp [hg]))
  refine ⟨(y, z), ⟨_, _, ?_, hy, hz⟩, hG, hG2⟩
  show (cs.drop off).take (a.sz + b.sz) = _
  rw [List.take_add, List.drop_drop]
theorem opens_struct {α : Type} {P : Program} {t : TypeId} {fs : Array Field} {d : Kd α} {G : α → Prop} (ht : P.underlying t = some (.struct fs)) (hc : P.cellsOf t = d.sz) (ho : OpensF P fs.toList 0 d G) : Opens P t d G := fun enc w base spare held fuel cs x hx => by
  obtain ⟨xs, n, _, _, hl, hxl, hel⟩ := DataW.trod_struct ht hx
  have := ho enc w base spare held n cs (fun f hf => by
    obtain ⟨i, hi, e⟩ := List.mem_iff_getElem.1 hf
    have h1 := hel i f (by rw [← Array.getElem?_toList, List.getElem?_eq_getElem hi, e])
    exact ⟨xs[i]'(by rw [hxl]; simpa using hi), by rw [h1]; exact List.getElem?_eq_getElem _⟩)
  rw [List.drop_zero, List.take_of_length_le (by omega)] at this
  exact this
/-- A row's length, by the reach. -/
theorem sized_row {H : Type} {enc : TypeId × Value → H} {P : Program} {W : World} {base : Nat} {spare : Nat → Bool} {held : Bool} {t e : TypeId} {a : Option Addr} {len cap : Nat} {d : DataW H} {ps : List MemPlace} {ts : List TypeId} {ds : List (DataW H)} {j : Nat}
    (hsz : (DataW.weightsEach P ts ds).all (· ≤ reachBytes) = true) (ht : ts[j]? = some t) (hd : ds[j]? = some d) (hu : P.underlying t = some (.slice e)) {B : Nat} (hB : P.bytesOf e = B)
    (h : DataW.Trod enc P W base spare held t (.slice a len cap) d ps) : len * B ≤ 140737488351232 := by
  obtain ⟨fuel, hf⟩ := h
  rcases DataW.trod_slice hu hf with ⟨hcs, _⟩ | ⟨x, l, c, elems, rest, n, _, hcs, hx, hb, hlc, hcm, hel, _, _⟩
  · simp [Value.cells] at hcs
    obtain ⟨rfl, rfl, rfl⟩ := hcs
    simp
  · simp [Value.cells] at hcs
    obtain ⟨rfl, rfl, rfl⟩ := hcs
    have hd' : d = .slice (elems.map (·.1)) (rest.map (·.1)) := congrArg Prod.fst hx
    subst hd'
    have := sized_slice hsz ht hd hu
    rw [hB] at this
    simp only [List.length_map] at this
    have h3 : len * B ≤ (elems.length + rest.length) * B := Nat.mul_le_mul_right _ (by omega)
    unfold reachBytes at this
    omega
theorem opens_at {α : Type} {H : Type} {enc : TypeId × Value → H} {P : Program} {W : World} {base : Nat} {spare : Nat → Bool} {held : Bool} {t : TypeId} {v : Value} {dd : DataW H} {ps : List MemPlace} {d : Kd α} {G : α → Prop} (ho : Opens P t d G) (h : DataW.Trod enc P W base spare held t v dd ps) : ∃ y, d.K W y v.cells.toList ∧ G y := by
  obtain ⟨fuel, hf⟩ := h
  exact ho enc W base spare held fuel _ _ hf
theorem opens_row {α : Type} {H : Type} {enc : TypeId × Value → H} {P : Program} {W : World} {base : Nat} {spare : Nat → Bool} {held : Bool} {t e : TypeId} {a : Option Addr} {len cap : Nat} {dd : DataW H} {ps : List MemPlace} {d : Kd α} {G : List α → Prop} (ho : Opens P t (Kd.slice e d) G) (h : DataW.Trod enc P W base spare held t (.slice a len cap) dd ps) :
    ∃ l : List α, len = l.length ∧ l.length ≤ cap ∧ d.C W a l.length l ∧ G l := by
  obtain ⟨y, ⟨A, c, hv, hl, hC⟩, hG⟩ := opens_at ho h
  simp only [Value.cells, List.cons.injEq, Value.slice.injEq, and_true] at hv
  obtain ⟨rfl, rfl, rfl⟩ := hv
  exact ⟨y, rfl, hl, hC, hG⟩
end Go.Proofs.YtjbhcaifmgbpgaaDoor.Op
