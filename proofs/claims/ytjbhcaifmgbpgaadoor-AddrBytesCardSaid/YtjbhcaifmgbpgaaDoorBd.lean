/-
  addr: equality of addresses and of places, as one Bool. Conditions: none.
-/
import Derived.Test.YtjbhcaifmgbpgaaDoorAp
import Derived.Test.YtjbhcaifmgbpgaaDoorBc
namespace Go.Proofs.YtjbhcaifmgbpgaaDoor.Ad
open Go Go.RowKit Go.Shelf Go.Proofs.YtjbhcaifmgbpgaaDoorW.PrintWords Go.Proofs.YtjbhcaifmgbpgaaDoorW.PrintLast Go.Proofs.YtjbhcaifmgbpgaaDoorW.PrintMore
set_option linter.unusedVariables false
set_option linter.unusedSimpArgs false
attribute [local go_sem] Oper.semAt_some
def eqA (h p h2 p2 : Int) : Bool := h == h2 && p == p2
def eqP (h p id : Int) (via : Bool) (h2 p2 id2 : Int) (via2 : Bool) : Bool := eqA h p h2 p2 && (id == id2 && via == via2)
theorem eqA_iff (h p h2 p2 : Int) : eqA h p h2 p2 = decide ((h, p) = (h2, p2)) := by
  unfold eqA
  by_cases a : h = h2
  · by_cases b : p = p2 <;> simp [a, b]
  · simp [a]
theorem eqP_iff (h p id : Int) (via : Bool) (h2 p2 id2 : Int) (via2 : Bool) : eqP h p id via h2 p2 id2 via2 = decide (((h, p, id, via) : PlaceP) = (h2, p2, id2, via2)) := by
  unfold eqP
  rw [eqA_iff]
  by_cases a : h = h2
  · by_cases b : p = p2
    · by_cases c : id = id2
      · by_cases e : via = via2 <;> simp [a, b, c, e]
      · simp [a, b, c]
    · simp [a, b]
  · simp [a]
theorem if_ad {α : Type} (h p h2 p2 : Int) (x y : α) : (if h = h2 then if p = p2 then x else y else y) = if eqA h p h2 p2 = true then x else y := by
  unfold eqA
  by_cases a : h = h2
  · by_cases b : p = p2 <;> simp [a, b]
  · simp [a]
theorem if_pl {α : Type} (h p id : Int) (via : Bool) (h2 p2 id2 : Int) (via2 : Bool) (x y : α) : (if h = h2 then if p = p2 then if id = id2 then if via = via2 then x else y else y else y else y) = if eqP h p id via h2 p2 id2 via2 = true then x else y := by
  unfold eqP eqA
  by_cases a : h = h2
  · by_cases b : p = p2
    · by_cases c : id = id2
      · by_cases e : via = via2 <;> simp [a, b, c, e]
      · simp [a, b, c]
    · simp [a, b]
  · simp [a]
end Go.Proofs.YtjbhcaifmgbpgaaDoor.Ad
