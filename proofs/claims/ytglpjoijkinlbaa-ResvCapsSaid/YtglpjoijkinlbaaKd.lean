/-
  ResvCaps's row: a script that came in, read. No condition.
-/
import Derived.Test.YtglpjoijkinlbaaKc
import Derived.Test.YtglpjoijkinlbaaRq
namespace Go.Proofs.Ytglpjoijkinlbaa.Rv
open Go.RowKit Go.Maps Go.Proofs.YtglpjoijkinlbaaW.PrintWords
set_option linter.unusedVariables false
def dDo : Kd DoV := Kd.pair (Kd.int .i64) (Kd.pair (Kd.int .i64) (Kd.pair (Kd.int .i64) (Kd.int .u32)))
theorem at_Do {w : World} {A : Option Addr} {n : Nat} {L : List DoV} (h : dDo.C w A n L) (i : Nat) (hi : i < L.length) (hn : n = L.length) : ∃ ad, A = some ad ∧ w.cell? (ad.add (i * 4)) = some (.int .i64 L[i].1) ∧ w.cell? ⟨(ad.add (i * 4)).block, (ad.add (i * 4)).off + 1, none⟩ = some (.int .i64 L[i].2.1) ∧ w.cell? ⟨(ad.add (i * 4)).block, (ad.add (i * 4)).off + 2, none⟩ = some (.int .i64 L[i].2.2.1) ∧ w.cell? ⟨(ad.add (i * 4)).block, (ad.add (i * 4)).off + 3, none⟩ = some (.int .u32 L[i].2.2.2) := by
  obtain ⟨ad, c, e, _, hK, hc⟩ := Kd.C_get h ((0 : Int), (0 : Int), (0 : Int), (0 : Int)) i (by omega) (by omega)
  have hg : L.getD (i : Int).toNat ((0 : Int), (0 : Int), (0 : Int), (0 : Int)) = L[i] := by rw [Int.toNat_natCast, List.getD_eq_getElem?_getD, List.getElem?_eq_getElem hi]; rfl
  rw [hg] at hK
  obtain ⟨_, _, rfl, rfl, _, _, rfl, rfl, _, _, rfl, rfl, rfl⟩ := hK
  exact ⟨ad, e, hc 0 _ rfl, by rw [← add_field _ _ 1 (by omega)]; exact hc 1 _ rfl, by rw [← add_field _ _ 2 (by omega)]; exact hc 2 _ rfl, by rw [← add_field _ _ 3 (by omega)]; exact hc 3 _ rfl⟩
theorem opens_Do : Op.Opens Try.prog 32 dDo (fun _ => True) :=
  Op.opens_mono (Op.opens_struct Try.underlying32 (by kernel_rfl)
    (Op.opensF_cons rfl (by kernel_rfl) (Op.opens_int Try.underlying3)
      (Op.opensF_cons rfl (by kernel_rfl) (Op.opens_int Try.underlying3)
        (Op.opensF_cons rfl (by kernel_rfl) (Op.opens_int Try.underlying3)
          (Op.opensF_one rfl (by kernel_rfl) (Op.opens_int Try.underlying30))))))
    (fun y h => trivial)
theorem opens_Dos : Op.Opens Try.prog 24 (Kd.slice 32 dDo) (fun _ => True) := Op.opens_mono (Op.opens_slice Try.underlying24 (by kernel_rfl) opens_Do) (fun y h => trivial)
theorem caps_row (cs : Array Value) (x : LimV) (A : Option Addr) (c : Nat) (l : List DoV) (w : World) (hr : dLim.K w x (Value.agg cs).cells.toList) (hw : True) (hr1 : dDo.C w A l.length l) (hc : l.length ≤ c) (hb : l.length * 32 ≤ 140737488351232) (hok : True) :
    Calls Try.prog 3 #[.agg cs, .slice A l.length c] w fun e w' => e = .returned (.bool true) ∧ Below w.heap.size w w' := by
  obtain rfl := lim_cells_of hr
  exact caps_calls w x.1 x.2.1 x.2.2.1 x.2.2.2.1 x.2.2.2.2.1 x.2.2.2.2.2 A c l hc (fun V hV i hi => at_Do (Kd.C_below hr1 hV) i hi rfl)
end Go.Proofs.Ytglpjoijkinlbaa.Rv
