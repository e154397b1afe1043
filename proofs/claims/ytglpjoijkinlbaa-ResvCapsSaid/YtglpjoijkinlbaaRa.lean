/-
  A relay's reservations, plain: rows of (peer, host, until) by rising peers, and how a map of them reads. No condition.
-/
import Derived.Test.YtglpjoijkinlbaaProg
import Derived.WalkKit
import Derived.KernelRfl
import Derived.Lib.SlMapFilter
import Derived.Maps.Ext
import Derived.Maps.RangeWalk
import Derived.Maps.OwnSet
import Derived.Maps.Views
import Derived.Laws.IdiomRangeMap
import Derived.Deep.LoopGhost
import Derived.Maps.AppendAt
import Derived.OpenShut
import Derived.BigRegion
import Derived.WideLaws
import Derived.Deep.RegionLaw
import Derived.Deep.Cut
import Derived.Deep.DeepCutAuto
import Derived.RowKit
import Derived.Lib.Hide
import Derived.StillTailTactics
import Derived.Deep.RegionHeld3
import Derived.IntWalk
namespace Go.Proofs.Ytglpjoijkinlbaa.Rv
open Go.RowKit Go.Maps
set_option linter.unusedVariables false
set_option linter.unusedSimpArgs false
abbrev HeldP := Int × Int × Int
def key (p : Int) : Lit := .int .i64 p
def encD (h : HeldP) : DataW Unit := .agg [.lit (.int .i64 h.1), .lit (.int .u32 h.2.1), .lit (.int .i64 h.2.2)]
def encH (h : HeldP) : Lit × DataW Unit := (key h.1, encD h)
def encL (L : List HeldP) : DataW Unit := .map (L.map encH)
def heldC (h : HeldP) : Array Value := #[.int .i64 h.1, .int .u32 h.2.1, .int .i64 h.2.2]
def heldR : Value → Option (DataW Unit × List MemPlace)
  | .agg ⟨[.int .i64 p, .int .u32 h, .int .i64 u]⟩ => some (encD (p, h, u), [])
  | _ => none
theorem heldR_mk (h : HeldP) : heldR (.agg (heldC h)) = some (encD h, []) := rfl
theorem heldR_inv {v : Value} {y : DataW Unit × List MemPlace} (h : heldR v = some y) : ∃ q : HeldP, v = .agg (heldC q) ∧ y = (encD q, []) := by
  unfold heldR at h
  split at h
  · rename_i p hh u
    injection h with h
    exact ⟨(p, hh, u), rfl, h.symm⟩
  · cases h
theorem encD_inj {a b : HeldP} (h : encD a = encD b) : a = b := by
  obtain ⟨a1, a2, a3⟩ := a
  obtain ⟨b1, b2, b3⟩ := b
  simpa [encD] using h
/-! ### rows by rising peers -/
def Ris (L : List HeldP) : Prop := L.Pairwise (fun x y => x.1 < y.1)
def insL (h : HeldP) : List HeldP → List HeldP
  | [] => [h]
  | x :: r => if h.1 < x.1 then h :: x :: r else x :: insL h r
def delL (L : List HeldP) (p : Int) : List HeldP := L.filter (fun x => !decide (x.1 = p))
def putL (L : List HeldP) (h : HeldP) : List HeldP := insL h (delL L h.1)
def overL (L : List HeldP) (now : Int) : List HeldP := L.filter (fun x => !decide (x.2.2 ≤ now))
def hasL (L : List HeldP) (p : Int) : Bool := L.any (fun x => decide (x.1 = p))
def getL (L : List HeldP) (p : Int) : HeldP := (L.find? (fun x => decide (x.1 = p))).getD (0, 0, 0)
def fromL (L : List HeldP) (host peer : Int) : Nat := (L.filter (fun x => !decide (x.1 = peer) && decide (x.2.1 = host))).length
theorem enc_same (x : HeldP) (p : Int) : (encH x).1.sameKey (key p) = decide (x.1 = p) := by
  show decide (IntKind.i64 = IntKind.i64 ∧ x.1 = p) = _
  simp
theorem enc_has (L : List HeldP) (p : Int) : has (encL L) (key p) = hasL L p := by
  show (L.map encH).any _ = _
  rw [List.any_map]
  unfold hasL
  congr 1
  funext x
  exact enc_same x p
theorem enc_size (L : List HeldP) : Maps.size (encL L) = L.length := List.length_map _
theorem enc_at (L : List HeldP) (p : Int) : (encL L).atKey (key p) (encD (0, 0, 0)) = encD (getL L p) := by
  have h : ∀ L : List HeldP, (L.map encH).find? (fun q => q.1.sameKey (key p)) = (L.find? (fun x => decide (x.1 = p))).map encH := by
    intro L
    rw [List.find?_map]
    congr 2
    funext x
    exact enc_same x p
  unfold encL DataW.atKey
  dsimp only
  rw [h]
  unfold getL
  cases L.find? (fun x => decide (x.1 = p)) <;> rfl
theorem enc_del (L : List HeldP) (p : Int) : (L.map encH).filter (fun q => !q.1.sameKey (key p)) = (delL L p).map encH := by
  rw [List.filter_map]
  unfold delL
  congr 2
  funext x
  show (!(encH x).1.sameKey (key p)) = _
  rw [enc_same]
theorem enc_ins (h : HeldP) : ∀ L : List HeldP, DataW.insert (encH h) (L.map encH) = (insL h L).map encH
  | [] => rfl
  | x :: r => by
    show (if (encH h).1.before (encH x).1 then _ else _) = _
    have e : (encH h).1.before (encH x).1 = decide (h.1 < x.1) := rfl
    rw [e]
    unfold insL
    by_cases c : h.1 < x.1
    · rw [if_pos c, if_pos (by simpa using c)]; rfl
    · rw [if_neg c, if_neg (by simpa using c), enc_ins h r]; rfl
theorem enc_put (L : List HeldP) (h : HeldP) : (encL L).put (key h.1) (encD h) = encL (putL L h) := by
  show DataW.map (DataW.insert (encH h) ((L.map encH).filter fun q => !q.1.sameKey (key h.1))) = _
  rw [enc_del, enc_ins]
  rfl
def overD (now : Int) (_ : Lit) : DataW Unit → Bool
  | .agg [_, _, .lit (.int _ u)] => decide (u ≤ now)
  | _ => false
theorem enc_over (L : List HeldP) (now : Int) : Lib.deleteFuncD (overD now) (encL L) = encL (overL L now) := by
  show DataW.map ((L.map encH).filter fun p => !overD now p.1 p.2) = _
  rw [List.filter_map]
  rfl
theorem ris_filter {L : List HeldP} (h : Ris L) (f : HeldP → Bool) : Ris (L.filter f) := h.filter f
theorem insL_mem {h x : HeldP} : ∀ {L : List HeldP}, x ∈ insL h L ↔ x = h ∨ x ∈ L
  | [] => by simp [insL]
  | y :: r => by
    unfold insL
    by_cases c : h.1 < y.1
    · rw [if_pos c]; simp
    · rw [if_neg c, List.mem_cons, insL_mem (L := r), List.mem_cons]
      constructor
      · rintro (e | e | e) <;> simp [e]
      · rintro (e | e | e) <;> simp [e]
theorem ris_ins {h : HeldP} : ∀ {L : List HeldP}, Ris L → (∀ x ∈ L, x.1 ≠ h.1) → Ris (insL h L)
  | [], _, _ => List.pairwise_singleton _ _
  | y :: r, hr, hn => by
    unfold insL
    obtain ⟨h1, h2⟩ := List.pairwise_cons.1 hr
    by_cases c : h.1 < y.1
    · rw [if_pos c]
      refine List.pairwise_cons.2 ⟨fun x hx => ?_, hr⟩
      rcases List.mem_cons.1 hx with rfl | hx
      · exact c
      · have := h1 x hx; omega
    · rw [if_neg c]
      refine List.pairwise_cons.2 ⟨fun x hx => ?_, ris_ins h2 (fun x hx => hn x (List.mem_cons_of_mem _ hx))⟩
      rcases insL_mem.1 hx with rfl | hx
      · have := hn y (by simp); omega
      · exact h1 x hx
theorem ris_put {L : List HeldP} (hr : Ris L) (h : HeldP) : Ris (putL L h) := ris_ins (ris_filter hr _) (fun x hx => by simpa using (List.mem_filter.1 hx).2)
theorem putL_mem {L : List HeldP} {h x : HeldP} : x ∈ putL L h ↔ x = h ∨ (x ∈ L ∧ x.1 ≠ h.1) := by
  unfold putL
  rw [insL_mem]
  unfold delL
  rw [List.mem_filter]
  simp
/-- Counted so far: those that no longer are to come. -/
def cntL (L : List HeldP) (host peer : Int) (left : Lit → Bool) : Nat := (L.filter (fun x => (!decide (x.1 = peer) && decide (x.2.1 = host)) && !left (key x.1))).length
theorem cnt_start (L : List HeldP) (host peer : Int) : cntL L host peer (has (encL L)) = 0 := by
  unfold cntL
  rw [List.length_eq_zero_iff, List.filter_eq_nil_iff]
  intro x hx
  have : has (encL L) (key x.1) = true := by rw [enc_has]; exact List.any_eq_true.2 ⟨x, hx, by simp⟩
  simp [this]
theorem cnt_end (L : List HeldP) (host peer : Int) {left : Lit → Bool} (hl : ∀ k, left k = false) : cntL L host peer left = fromL L host peer := by
  unfold cntL fromL
  congr 1
  exact List.filter_congr (fun x _ => by simp [hl])
theorem cnt_le (L : List HeldP) (host peer : Int) (left : Lit → Bool) : cntL L host peer left ≤ L.length := List.length_filter_le _ _
theorem key_same (a b : Int) : (key a).sameKey (key b) = decide (a = b) := by
  show decide (IntKind.i64 = IntKind.i64 ∧ a = b) = _
  simp
theorem cnt_step (host peer : Int) {left : Lit → Bool} (q : HeldP) (hq : left (key q.1) = true) : ∀ {L : List HeldP}, Ris L → q ∈ L → cntL L host peer (fun z => left z && !z.sameKey (key q.1)) = cntL L host peer left + (if (!decide (q.1 = peer) && decide (q.2.1 = host)) = true then 1 else 0)
  | [], _, h => by cases h
  | x :: r, hr, h => by
    obtain ⟨h1, h2⟩ := List.pairwise_cons.1 hr
    have cons : ∀ lf : Lit → Bool, cntL (x :: r) host peer lf = (if ((!decide (x.1 = peer) && decide (x.2.1 = host)) && !lf (key x.1)) = true then 1 else 0) + cntL r host peer lf := by
      intro lf
      unfold cntL
      rw [List.filter_cons]
      split
      · rw [List.length_cons]; omega
      · omega
    rw [cons, cons]
    rcases List.mem_cons.1 h with rfl | h
    · have e : cntL r host peer (fun z => left z && !z.sameKey (key q.1)) = cntL r host peer left := by
        unfold cntL
        congr 1
        refine List.filter_congr (fun y hy => ?_)
        have := h1 y hy
        dsimp only
        rw [key_same]
        have : ¬ (y.1 = q.1) := by omega
        simp [this]
      rw [e, key_same]
      simp [hq]
      omega
    · have := h1 q h
      have hne : ¬ (x.1 = q.1) := by omega
      rw [cnt_step host peer q hq h2 h, key_same]
      simp [hne]
      omega
end Go.Proofs.Ytglpjoijkinlbaa.Rv
