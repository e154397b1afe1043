/-
  A relay's reservations, plain: rows of (peer, host, until) by rising peers, and how a map of them reads. No condition.
  resv: the time goes on: maps.DeleteFunc with the closure of (*Table).on, and on. Conditions: as the theorems state them.
  resv: a table, where it lies; the time goes on. Conditions: as the theorems state them.
  resv: how many of other peers are from a host. Conditions: as the theorem states them.
  resv: till when a peer has a reservation. Conditions: numbers are of their kinds.
-/
import Derived.Test.YteajlffchdbkjaaProg
import Derived.WalkKit
import Derived.KernelRfl
import Derived.Lib.SlMapFilter
import Derived.Maps.Ext
import Derived.Maps.RangeWalk
import Derived.Maps.OwnSet
import Derived.Maps.Views
import Derived.Laws.IdiomRangeMap
import Derived.Deep.LoopGhost
import Derived.Maps.AppendAt
import Derived.OpenShut
import Derived.BigRegion
import Derived.WideLaws
import Derived.Deep.RegionLaw
import Derived.Deep.Cut
import Derived.Deep.DeepCutAuto
import Derived.RowKit
import Derived.Lib.Hide
import Derived.StillTailTactics
import Derived.Deep.RegionHeld3
import Derived.IntWalk
import Derived.Shelf.Abstract
import Derived.Test.YteajlffchdbkjaaWMore
import Derived.Test.YteajlffchdbkjaaWLast
namespace Go.Proofs.Yteajlffchdbkjaa.Rv
open Go.RowKit Go.Maps
set_option linter.unusedVariables false
set_option linter.unusedSimpArgs false
abbrev HeldP := Int × Int × Int
def key (p : Int) : Lit := .int .i64 p
def encD (h : HeldP) : DataW Unit := .agg [.lit (.int .i64 h.1), .lit (.int .u32 h.2.1), .lit (.int .i64 h.2.2)]
def encH (h : HeldP) : Lit × DataW Unit := (key h.1, encD h)
def encL (L : List HeldP) : DataW Unit := .map (L.map encH)
def heldC (h : HeldP) : Array Value := #[.int .i64 h.1, .int .u32 h.2.1, .int .i64 h.2.2]
def heldR : Value → Option (DataW Unit × List MemPlace)
  | .agg ⟨[.int .i64 p, .int .u32 h, .int .i64 u]⟩ => some (encD (p, h, u), [])
  | _ => none
theorem heldR_mk (h : HeldP) : heldR (.agg (heldC h)) = some (encD h, []) := rfl
theorem heldR_inv {v : Value} {y : DataW Unit × List MemPlace} (h : heldR v = some y) : ∃ q : HeldP, v = .agg (heldC q) ∧ y = (encD q, []) := by
  unfold heldR at h
  split at h
  · rename_i p hh u
    injection h with h
    exact ⟨(p, hh, u), rfl, h.symm⟩
  · cases h
theorem encD_inj {a b : HeldP} (h : encD a = encD b) : a = b := by
  obtain ⟨a1, a2, a3⟩ := a
  obtain ⟨b1, b2, b3⟩ := b
  simpa [encD] using h
/-! ### rows by rising peers -/
def Ris (L : List HeldP) : Prop := L.Pairwise (fun x y => x.1 < y.1)
def insL (h : HeldP) : List HeldP → List HeldP
  | [] => [h]
  | x :: r => if h.1 < x.1 then h :: x :: r else x :: insL h r
def delL (L : List HeldP) (p : Int) : List HeldP := L.filter (fun x => !decide (x.1 = p))
def putL (L : List HeldP) (h : HeldP) : List HeldP := insL h (delL L h.1)
def overL (L : List HeldP) (now : Int) : List HeldP := L.filter (fun x => !decide (x.2.2 ≤ now))
def hasL (L : List HeldP) (p : Int) : Bool := L.any (fun x => decide (x.1 = p))
def getL (L : List HeldP) (p : Int) : HeldP := (L.find? (fun x => decide (x.1 = p))).getD (0, 0, 0)
def fromL (L : List HeldP) (host peer : Int) : Nat := (L.filter (fun x => !decide (x.1 = peer) && decide (x.2.1 = host))).length
theorem enc_same (x : HeldP) (p : Int) : (encH x).1.sameKey (key p) = decide (x.1 = p) := by
  show decide (IntKind.i64 = IntKind.i64 ∧ x.1 = p) = _
  simp
theorem enc_has (L : List HeldP) (p : Int) : has (encL L) (key p) = hasL L p := by
  show (L.map encH).any _ = _
  rw [List.any_map]
  unfold hasL
  congr 1
  funext x
  exact enc_same x p
theorem enc_size (L : List HeldP) : Maps.size (encL L) = L.length := List.length_map _
theorem enc_at (L : List HeldP) (p : Int) : (encL L).atKey (key p) (encD (0, 0, 0)) = encD (getL L p) := by
  have h : ∀ L : List HeldP, (L.map encH).find? (fun q => q.1.sameKey (key p)) = (L.find? (fun x => decide (x.1 = p))).map encH := by
    intro L
    rw [List.find?_map]
    congr 2
    funext x
    exact enc_same x p
  unfold encL DataW.atKey
  dsimp only
  rw [h]
  unfold getL
  cases L.find? (fun x => decide (x.1 = p)) <;> rfl
theorem enc_del (L : List HeldP) (p : Int) : (L.map encH).filter (fun q => !q.1.sameKey (key p)) = (delL L p).map encH := by
  rw [List.filter_map]
  unfold delL
  congr 2
  funext x
  show (!(encH x).1.sameKey (key p)) = _
  rw [enc_same]
theorem enc_ins (h : HeldP) : ∀ L : List HeldP, DataW.insert (encH h) (L.map encH) = (insL h L).map encH
  | [] => rfl
  | x :: r => by
    show (if (encH h).1.before (encH x).1 then _ else _) = _
    have e : (encH h).1.before (encH x).1 = decide (h.1 < x.1) := rfl
    rw [e]
    unfold insL
    by_cases c : h.1 < x.1
    · rw [if_pos c, if_pos (by simpa using c)]; rfl
    · rw [if_neg c, if_neg (by simpa using c), enc_ins h r]; rfl
theorem enc_put (L : List HeldP) (h : HeldP) : (encL L).put (key h.1) (encD h) = encL (putL L h) := by
  show DataW.map (DataW.insert (encH h) ((L.map encH).filter fun q => !q.1.sameKey (key h.1))) = _
  rw [enc_del, enc_ins]
  rfl
def overD (now : Int) (_ : Lit) : DataW Unit → Bool
  | .agg [_, _, .lit (.int _ u)] => decide (u ≤ now)
  | _ => false
theorem enc_over (L : List HeldP) (now : Int) : Lib.deleteFuncD (overD now) (encL L) = encL (overL L now) := by
  show DataW.map ((L.map encH).filter fun p => !overD now p.1 p.2) = _
  rw [List.filter_map]
  rfl
theorem ris_filter {L : List HeldP} (h : Ris L) (f : HeldP → Bool) : Ris (L.filter f) := h.filter f
theorem insL_mem {h x : HeldP} : ∀ {L : List HeldP}, x ∈ insL h L ↔ x = h ∨ x ∈ L
  | [] => by simp [insL]
  | y :: r => by
    unfold insL
    by_cases c : h.1 < y.1
    · rw [if_pos c]; simp
    · rw [if_neg c, List.mem_cons, insL_mem (L := r), List.mem_cons]
      constructor
      · rintro (e | e | e) <;> simp [e]
      · rintro (e | e | e) <;> simp [e]
theorem ris_ins {h : HeldP} : ∀ {L : List HeldP}, Ris L → (∀ x ∈ L, x.1 ≠ h.1) → Ris (insL h L)
  | [], _, _ => List.pairwise_singleton _ _
  | y :: r, hr, hn => by
    unfold insL
    obtain ⟨h1, h2⟩ := List.pairwise_cons.1 hr
    by_cases c : h.1 < y.1
    · rw [if_pos c]
      refine List.pairwise_cons.2 ⟨fun x hx => ?_, hr⟩
      rcases List.mem_cons.1 hx with rfl | hx
      · exact c
      · have := h1 x hx; omega
    · rw [if_neg c]
      refine List.pairwise_cons.2 ⟨fun x hx => ?_, ris_ins h2 (fun x hx => hn x (List.mem_cons_of_mem _ hx))⟩
      rcases insL_mem.1 hx with rfl | hx
      · have := hn y (by simp); omega
      · exact h1 x hx
theorem ris_put {L : List HeldP} (hr : Ris L) (h : HeldP) : Ris (putL L h) := ris_ins (ris_filter hr _) (fun x hx => by simpa using (List.mem_filter.1 hx).2)
theorem putL_mem {L : List HeldP} {h x : HeldP} : x ∈ putL L h ↔ x = h ∨ (x ∈ L ∧ x.1 ≠ h.1) := by
  unfold putL
  rw [insL_mem]
  unfold delL
  rw [List.mem_filter]
  simp
/-- Counted so far: those that no longer are to come. -/
def cntL (L : List HeldP) (host peer : Int) (left : Lit → Bool) : Nat := (L.filter (fun x => (!decide (x.1 = peer) && decide (x.2.1 = host)) && !left (key x.1))).length
theorem cnt_start (L : List HeldP) (host peer : Int) : cntL L host peer (has (encL L)) = 0 := by
  unfold cntL
  rw [List.length_eq_zero_iff, List.filter_eq_nil_iff]
  intro x hx
  have : has (encL L) (key x.1) = true := by rw [enc_has]; exact List.any_eq_true.2 ⟨x, hx, by simp⟩
  simp [this]
theorem cnt_end (L : List HeldP) (host peer : Int) {left : Lit → Bool} (hl : ∀ k, left k = false) : cntL L host peer left = fromL L host peer := by
  unfold cntL fromL
  congr 1
  exact List.filter_congr (fun x _ => by simp [hl])
theorem cnt_le (L : List HeldP) (host peer : Int) (left : Lit → Bool) : cntL L host peer left ≤ L.length := List.length_filter_le _ _
theorem key_same (a b : Int) : (key a).sameKey (key b) = decide (a = b) := by
  show decide (IntKind.i64 = IntKind.i64 ∧ a = b) = _
  simp
theorem cnt_step (host peer : Int) {left : Lit → Bool} (q : HeldP) (hq : left (key q.1) = true) : ∀ {L : List HeldP}, Ris L → q ∈ L → cntL L host peer (fun z => left z && !z.sameKey (key q.1)) = cntL L host peer left + (if (!decide (q.1 = peer) && decide (q.2.1 = host)) = true then 1 else 0)
  | [], _, h => by cases h
  | x :: r, hr, h => by
    obtain ⟨h1, h2⟩ := List.pairwise_cons.1 hr
    have cons : ∀ lf : Lit → Bool, cntL (x :: r) host peer lf = (if ((!decide (x.1 = peer) && decide (x.2.1 = host)) && !lf (key x.1)) = true then 1 else 0) + cntL r host peer lf := by
      intro lf
      unfold cntL
      rw [List.filter_cons]
      split
      · rw [List.length_cons]; omega
      · omega
    rw [cons, cons]
    rcases List.mem_cons.1 h with rfl | h
    · have e : cntL r host peer (fun z => left z && !z.sameKey (key q.1)) = cntL r host peer left := by
        unfold cntL
        congr 1
        refine List.filter_congr (fun y hy => ?_)
        have := h1 y hy
        dsimp only
        rw [key_same]
        have : ¬ (y.1 = q.1) := by omega
        simp [this]
      rw [e, key_same]
      simp [hq]
      omega
    · have := h1 q h
      have hne : ¬ (x.1 = q.1) := by omega
      rw [cnt_step host peer q hq h2 h, key_same]
      simp [hne]
      omega
end Go.Proofs.Yteajlffchdbkjaa.Rv
namespace Go.Proofs.Yteajlffchdbkjaa.Rv
open Go.RowKit Go.Maps Go.Shelf
set_option linter.unusedVariables false
set_option linter.unusedSimpArgs false
attribute [local go_sem] Oper.semAt_some
theorem K3 : Keyed Try.prog 3 := int_keyed Try.underlying3
theorem cell_cellsN {w : World} {g t : Nat} {cs : Array Value} (h : w.heap[g]? = some (.cells cs t (0, 0))) (j : Nat) (hj : j < cs.size) : w.cell? ⟨g, j, none⟩ = some cs[j] := by unfold World.cell?; rw [h]; simp [hj]
theorem new_cellsN (w : World) (t : TypeId) (cs : Array Value) : (w.alloc (.cells cs t)).heap[w.heap.size]? = some (.cells cs t (0, 0)) := (MapKept.heap_alloc w (.cells cs t)).1
theorem held_cells {V : World} {g : Nat} {q : HeldP} (h : V.heap[g]? = some (.cells (heldC q) 58 (0, 0))) : V.cell? ⟨g, 0, none⟩ = some (.int .i64 q.1) ∧ V.cell? ⟨g, 1, none⟩ = some (.int .u32 q.2.1) ∧ V.cell? ⟨g, 2, none⟩ = some (.int .i64 q.2.2) :=
  ⟨cell_cellsN h 0 (by simp [heldC]), cell_cellsN h 1 (by simp [heldC]), cell_cellsN h 2 (by simp [heldC])⟩
set_option maxRecDepth 100000 in
set_option maxHeartbeats 2000000 in
theorem closure_calls (W : World) (k : Value) (p hh u now : Int) (bx g : Nat) (hbx : W.cell? ⟨bx, 0, none⟩ = some (.pointer (some ⟨g, 0, none⟩))) (hnow : W.cell? ⟨g, 7, none⟩ = some (.int .i64 now)) :
    Calls Try.prog 69 (#[k, .agg #[.int .i64 p, .int .u32 hh, .int .i64 u]] ++ #[.pointer (some ⟨bx, 0, none⟩)]) W fun e w' => e = .returned (.bool (decide (u ≤ now))) ∧ W.grownBy w' none := by
  obtain ⟨X, hX⟩ : ∃ X, W.alloc (.cells #[.int .i64 p, .int .u32 hh, .int .i64 u] 58) = X := ⟨_, rfl⟩
  have hg : W.grownBy X none := by rw [← hX]; exact World.grownBy_alloc W _ none
  have h1 : X.cell? ⟨bx, 0, none⟩ = some (.pointer (some ⟨g, 0, none⟩)) := hg.cell hbx (by simp)
  have h2 : X.cell? ⟨g, 7, none⟩ = some (.int .i64 now) := hg.cell hnow (by simp)
  have h3 : X.cell? ⟨W.heap.size, 2, none⟩ = some (.int .i64 u) := by rw [← hX]; exact cell_cellsN (new_cellsN W _ _) 2 (by simp)
  have HG := Lib.hid hg
  clear hg
  go_enter Try.func69, Try.ntmps69
  go_wp2
  go_region
  go_wp2
  go_ret
  exact ⟨rfl, HG.out.os, HG.out.tape, HG.out.output, HG.out.size, HG.out.block⟩
set_option maxRecDepth 100000 in
set_option maxHeartbeats 8000000 in
theorem delf_calls (L : List HeldP) (now : Int) (g bx b n : Nat) (w : World) (hown : w.ownsMap Try.prog 3 heldR b n (encL L)) (hbx : w.cell? ⟨bx, 0, none⟩ = some (.pointer (some ⟨g, 0, none⟩))) (hnow : w.cell? ⟨g, 7, none⟩ = some (.int .i64 now)) (hb : bx ≠ b) (hg : g ≠ b) :
    Calls Try.prog 68 #[.map (some b), .func (.func 69) #[] #[.pointer (some ⟨bx, 0, none⟩)]] w fun e w' => e = .returned (.tuple #[]) ∧ w'.ownsMap Try.prog 3 heldR b n (encL (overL L now)) ∧ w.grownBy w' (some b) := by
  have eg : ∀ args w, (callFunc 69 args).run Try.prog w = .ok (.enter 69 args) w := enters_of Try.func69 (by kernel_rfl) rfl
  obtain ⟨es0, hes, hap, hkeys⟩ := hown.entries K3
  rw [hes] at hown
  have hpost : encL (overL L now) = Lib.deleteFuncD (overD now) (.map es0) := by rw [← hes, enc_over]
  rw [hpost]
  have HD := Lib.hid (fun (W : World) (hW : w.grownBy W (some b)) (k : Value) (p hh u : Int) => closure_calls W k p hh u now bx g (hW.cell hbx (fun e => hb (by injection e))) (hW.cell hnow (fun e => hg (by injection e))))
  clear hes hpost hbx hnow
  go_enter Try.func68, Try.ntmps68
  go_wp2_with (first
    | (at_range; refine wpList_range_own _ rfl _ 99 rfl 3 58 K3 Try.underlying99 heldR b n _ rfl hown ?_; intro w0 hrg0 hg0 hs0)
    | go_in)
  go_frame
  go_loopw [8] (fun _ wr => ∃ (left : Lit → Bool) (cnt : Nat), wr.ranges Try.prog 3 heldR b w.heap.size n (Fk (overD now) es0 left) left cnt ∧ w.grownBy wr (some b))
    (fun _ wr => wr.rangeLeft b w.heap.size)
  case atStart => exact ⟨_, _, by rw [Fk_start hkeys]; exact hrg0, hg0.but _⟩
  case round =>
    obtain ⟨left, cnt, hrg, hgw⟩ := hrel
    go_wp2_with (first
      | (at_next; refine wpList_next_ranges _ rfl _ rfl 3 K3 heldR id id (fun key _ _ => ⟨key, rfl⟩) (fun v _ _ => ⟨v, rfl⟩) b w.heap.size n _ _ _ rfl hrg ?_ ?_)
      | go_in)
    · intro _ hl0
      go_wp2
      go_end0
      exact ⟨rfl, by rw [← Fk_end hl0]; exact hrg.owns, hgw⟩
    · intro x c kl yd yp w1 cnt1 hkey hlx hv hat hrg1 hlt hg1 hs1 hen
      obtain ⟨⟨p, hh, u⟩, hc, hy⟩ := heldR_inv hv
      have hc : c = .agg #[.int .i64 p, .int .u32 hh, .int .i64 u] := hc
      subst hc
      have hgw1 := hgw.andThen hg1 (fun j hj => by cases hj; exact Or.inl (Nat.le_refl _))
      have hbl := hrg1.owns.lt
      have hrl := hrg1.lt
      have hat' : ∀ zd, (Fk (overD now) es0 left).atKey kl zd = encD (p, hh, u) := fun zd => by rw [hat zd]; exact congrArg Prod.fst hy
      have hpd : overD now kl (encD (p, hh, u)) = decide (u ≤ now) := rfl
      go_upto_region 3 with fail
      obtain ⟨W2, hW2⟩ : ∃ X, w1.alloc (.cells #[.int .i64 p, .int .u32 hh, .int .i64 u] 58) = X := ⟨_, rfl⟩
      have hga : w1.grownBy W2 none := by rw [← hW2]; exact World.grownBy_alloc w1 _ none
      have hrg2 : W2.ranges Try.prog 3 heldR b w.heap.size n (Fk (overD now) es0 left) (fun z => left z && !z.sameKey kl) cnt1 := by rw [← hW2]; exact hrg1.alloc _
      have hgw2 := hgw1.andThen hga (fun j hj => by cases hj)
      have hcl := new_cellsN w1 58 #[.int .i64 p, .int .u32 hh, .int .i64 u]
      rw [hW2, hs1] at hcl
      obtain ⟨f0, f1, f2⟩ := held_cells (q := (p, hh, u)) hcl
      have hc := HD.out W2 hgw2 x p hh u
      rw [hW2]
      clear hW2 hcl
      by_cases hp : u ≤ now
      · rw [decide_eq_true hp] at hc hpd
        go_wp2_with (first
          | (go_at_fn 69; refine hc.mono ?_; rintro e w3 ⟨rfl, hg3⟩; have hrg3 := hrg2.kept hg3 (by simp) (by simp))
          | (at_delete; refine wpList_delete_ranges _ rfl _ _ 99 3 rfl 58 K3 Try.underlying99 heldR b w.heap.size n _ _ _ rfl hrg3 _ _ rfl hkey ?_; intro w4 cnt4 hrg4 hle hturn; go_frame)
          | go_in)
        rw [strike_twice] at hrg4
        go_roundw
        case rel => exact ⟨_, cnt4, by rw [← Fk_struck hap (K3.key hkey) hlx hpd hat']; exact hrg4, (hgw2.andThen hg3 (fun j hj => by cases hj)).andThen hturn.grown (fun j hj => by cases hj; exact Or.inr rfl)⟩
        case measure => rw [hrg4.left_eq, hrg.left_eq]; omega
      · rw [decide_eq_false hp] at hc hpd
        go_wp2_with (first
          | (go_at_fn 69; refine hc.mono ?_; rintro e w3 ⟨rfl, hg3⟩)
          | go_in)
        have hrg3 := hrg2.kept hg3 (by simp) (by simp)
        go_roundw
        case rel => exact ⟨_, cnt1, by rw [← Fk_stays hap (K3.key hkey) hlx hpd hat']; exact hrg3, hgw2.andThen hg3 (fun j hj => by cases hj)⟩
        case measure => rw [hrg3.left_eq, hrg.left_eq]; exact hlt
end Go.Proofs.Yteajlffchdbkjaa.Rv
namespace Go.Proofs.Yteajlffchdbkjaa.Rv
open Go.RowKit Go.Maps Go.Shelf Go.Proofs.YteajlffchdbkjaaW.PrintWords Go.Proofs.YteajlffchdbkjaaW.PrintLast Go.Proofs.YteajlffchdbkjaaW.PrintMore
set_option linter.unusedVariables false
set_option linter.unusedSimpArgs false
attribute [local go_sem] Oper.semAt_some max2_int min2_int max_two min_two
abbrev LimV := Int × Int × Int × Int × Int × Int
def tabC (l : LimV) (b : Nat) (now : Int) : Array Value := #[.int .i64 l.1, .int .i64 l.2.1, .int .i64 l.2.2.1, .int .i64 l.2.2.2.1, .int .i64 l.2.2.2.2.1, .int .i64 l.2.2.2.2.2, .map (some b), .int .i64 now]
def TabAt (W : World) (g b n : Nat) (l : LimV) (L : List HeldP) (now : Int) : Prop := W.heap[g]? = some (.cells (tabC l b now) 101 (0, 0)) ∧ W.ownsMap Try.prog 3 heldR b n (encL L)
def Touch (g b : Nat) (W W' : World) : Prop := W'.os = W.os ∧ W'.tape = W.tape ∧ W'.output = W.output ∧ W.heap.size ≤ W'.heap.size ∧ ∀ i, i < W.heap.size → i ≠ g → i ≠ b → W'.heap[i]? = W.heap[i]?
theorem Touch.refl (g b : Nat) (W : World) : Touch g b W W := ⟨rfl, rfl, rfl, Nat.le_refl _, fun _ _ _ _ => rfl⟩
theorem Touch.trans {g b : Nat} {W X Y : World} (h : Touch g b W X) (k : Touch g b X Y) : Touch g b W Y :=
  ⟨k.1.trans h.1, k.2.1.trans h.2.1, k.2.2.1.trans h.2.2.1, Nat.le_trans h.2.2.2.1 k.2.2.2.1, fun i hi h1 h2 => (k.2.2.2.2 i (Nat.lt_of_lt_of_le hi h.2.2.2.1) h1 h2).trans (h.2.2.2.2 i hi h1 h2)⟩
theorem Touch.grown {g b : Nat} {W X : World} (h : W.grownBy X none) : Touch g b W X := ⟨h.os, h.tape, h.output, h.size, fun i hi _ _ => h.block i hi (by simp)⟩
theorem Touch.grownB {g b : Nat} {W X : World} (h : W.grownBy X (some b)) : Touch g b W X := ⟨h.os, h.tape, h.output, h.size, fun i hi _ h2 => h.block i hi (by simpa using h2)⟩
theorem Touch.below {g b B : Nat} {w W X : World} (hb : Below B w W) (h : Touch g b W X) (hg : B ≤ g) (hbb : B ≤ b) (hB : B ≤ W.heap.size) : Below B w X :=
  ⟨h.1.trans hb.os, h.2.1.trans hb.tape, h.2.2.1.trans hb.output, Nat.le_trans hb.size h.2.2.2.1, fun i hi => (h.2.2.2.2 i (by omega) (by omega) (by omega)).trans (hb.block i hi)⟩
theorem TabAt.ne {W : World} {g b n : Nat} {l : LimV} {L : List HeldP} {now : Int} (h : TabAt W g b n l L now) : g ≠ b := by
  obtain ⟨h1, es, clock, h2, _⟩ := h
  intro e
  rw [e, h2] at h1
  cases h1
theorem TabAt.lt {W : World} {g b n : Nat} {l : LimV} {L : List HeldP} {now : Int} (h : TabAt W g b n l L now) : g < W.heap.size ∧ b < W.heap.size := ⟨(Array.getElem?_eq_some_iff.1 h.1).1, h.2.lt⟩
theorem TabAt.step {W X : World} {g b n : Nat} {l : LimV} {L : List HeldP} {now : Int} (h : TabAt W g b n l L now) (hg : W.grownBy X none) : TabAt X g b n l L now := ⟨(hg.block g h.lt.1 (by simp)).trans h.1, h.2.kept hg (by simp)⟩
theorem tab_cells {V : World} {g b : Nat} {l : LimV} {now : Int} (h : V.heap[g]? = some (.cells (tabC l b now) 101 (0, 0))) : V.cell? ⟨g, 0, none⟩ = some (.int .i64 l.1) ∧ V.cell? ⟨g, 1, none⟩ = some (.int .i64 l.2.1) ∧ V.cell? ⟨g, 3, none⟩ = some (.int .i64 l.2.2.2.1) ∧ V.cell? ⟨g, 6, none⟩ = some (.map (some b)) ∧ V.cell? ⟨g, 7, none⟩ = some (.int .i64 now) :=
  ⟨cell_cellsN h 0 (by simp [tabC]), cell_cellsN h 1 (by simp [tabC]), cell_cellsN h 3 (by simp [tabC]), cell_cellsN h 6 (by simp [tabC]), cell_cellsN h 7 (by simp [tabC])⟩
theorem frozen_cellsN {w : World} {g t : Nat} {cs : Array Value} (h : w.heap[g]? = some (.cells cs t (0, 0))) (j : Nat) : w.frozen? ⟨g, j, none⟩ = false := by unfold World.frozen?; rw [h]; simp
theorem set_cellsN {w : World} {g t : Nat} {cs cs' : Array Value} (j : Nat) {z : Value} (h : w.heap[g]? = some (.cells cs t (0, 0))) (hc : cs.setIfInBounds j z = cs') : (w.setCell ⟨g, j, none⟩ z).heap[g]? = some (.cells cs' t (0, 0)) := by
  subst hc
  unfold World.setCell
  show (w.heap.modify g _)[g]? = _
  rw [Array.getElem?_modify, if_pos rfl, h]
  rfl
def capT (t : Int) : Int := if 1099511627776 < t then 1099511627776 else t
def onT (now t : Int) : Int := if now < capT t then capT t else now
set_option maxRecDepth 100000 in
set_option maxHeartbeats 4000000 in
theorem on_calls (W : World) (g b n : Nat) (l : LimV) (L : List HeldP) (now t : Int) (h : TabAt W g b n l L now) :
    Calls Try.prog 43 #[.pointer (some ⟨g, 0, none⟩), .int .i64 t] W fun e w' => e = .returned (.tuple #[]) ∧ TabAt w' g b n l (overL L (onT now t)) (onT now t) ∧ Touch g b W w' := by
  have hne := h.ne
  have hlt := h.lt
  obtain ⟨X, hX⟩ : ∃ X, W.alloc (.cells #[.pointer (some ⟨g, 0, none⟩)] 69) = X := ⟨_, rfl⟩
  have hgX : W.grownBy X none := by rw [← hX]; exact World.grownBy_alloc W _ none
  have hT := h.step hgX
  obtain ⟨c0, c1, c3, c6, c7⟩ := tab_cells hT.1
  have hfz := frozen_cellsN hT.1 7
  have hbx : X.cell? ⟨W.heap.size, 0, none⟩ = some (.pointer (some ⟨g, 0, none⟩)) := by rw [← hX]; exact cell_cellsN (new_cellsN W _ _) 0 (by simp)
  obtain ⟨m, hm⟩ : ∃ m, (if 1099511627776 < t then 1099511627776 else t) = m := ⟨_, rfl⟩
  obtain ⟨T, hTn⟩ : ∃ T, (if now < m then m else now) = T := ⟨_, rfl⟩
  have hon : onT now t = T := by unfold onT capT; rw [hm]; exact hTn
  rw [hon]
  have HT := Lib.hid hT
  have HG := Lib.hid hgX
  go_enter Try.func43, Try.ntmps43
  go_upto_region 1 with fail
  clear hX
  go_region
  go_upto_region 2 with fail
  obtain ⟨Y, hY⟩ : ∃ Y, (X.setCell ⟨g, 7, none⟩ (.int .i64 T)).drew = Y := ⟨_, rfl⟩
  have hYg : Y.heap[g]? = some (.cells (tabC l b T) 101 (0, 0)) := by rw [← hY]; exact set_cellsN 7 HT.out.1 (by simp [tabC])
  have hYm : Y.ownsMap Try.prog 3 heldR b n (encL L) := by rw [← hY]; exact (HT.out.2.setCell (Ne.symm hne) _).drew
  have hYo : ∀ i, i ≠ g → Y.heap[i]? = X.heap[i]? := by
    intro i hi
    rw [← hY]
    show (X.heap.modify g _)[i]? = _
    rw [Array.getElem?_modify, if_neg (fun e => hi e.symm)]
  have hYs : X.heap.size ≤ Y.heap.size := by rw [← hY]; show _ ≤ (X.heap.modify g _).size; rw [Array.size_modify]; exact Nat.le_refl _
  have hYos : Y.os = X.os ∧ Y.tape = X.tape ∧ Y.output = X.output := by rw [← hY]; exact ⟨rfl, rfl, rfl⟩
  have hYb : Y.cell? ⟨W.heap.size, 0, none⟩ = some (.pointer (some ⟨g, 0, none⟩)) := by
    have e := hYo W.heap.size (by omega)
    unfold World.cell? at hbx ⊢
    rw [e]
    exact hbx
  have hTo : Touch g b W Y := (Touch.grown HG.out).trans ⟨hYos.1, hYos.2.1, hYos.2.2, hYs, fun i _ h1 _ => hYo i h1⟩
  have KD := Lib.hid (delf_calls L T g W.heap.size b n Y hYm hYb (tab_cells hYg).2.2.2.2 (by omega) hne)
  have HTo := Lib.hid hTo
  have HYg := Lib.hid hYg
  have HYl := Lib.hid (show g < Y.heap.size from (Array.getElem?_eq_some_iff.1 hYg).1)
  obtain ⟨d0, d1, d3, d6, d7⟩ := tab_cells hYg
  rw [hY]
  clear hY hYg hYm hYo hYs hYos hTo c0 c1 c3 c6 c7 hfz hT hgX hbx hm hTn hon
  go_wp2_with (go_at_call 68; refine KD.out.mono ?_; rintro e w2 ⟨rfl, h2, hg2⟩)
  go_end0
  exact ⟨rfl, ⟨(hg2.block g HYl.out (by simpa using hne)).trans HYg.out, h2⟩, HTo.out.trans (Touch.grownB hg2)⟩
end Go.Proofs.Yteajlffchdbkjaa.Rv
namespace Go.Proofs.Yteajlffchdbkjaa.Rv
open Go.RowKit Go.Maps Go.Shelf Go.Proofs.YteajlffchdbkjaaW.PrintWords Go.Proofs.YteajlffchdbkjaaW.PrintLast Go.Proofs.YteajlffchdbkjaaW.PrintMore
set_option linter.unusedVariables false
set_option linter.unusedSimpArgs false
attribute [local go_sem] Oper.semAt_some
theorem at_mem {L : List HeldP} {x : Int} {q : HeldP} (h : ∀ zd, (encL L).atKey (key x) zd = encD q) : q ∈ L ∧ q.1 = x := by
  have h0 := h .nil
  unfold encL DataW.atKey at h0
  dsimp only at h0
  rw [List.find?_map] at h0
  cases hf : L.find? ((fun p => p.1.sameKey (key x)) ∘ encH) with
  | none => rw [hf] at h0; cases h0
  | some z =>
    rw [hf] at h0
    have e := encD_inj h0
    subst e
    have h1 := List.find?_some hf
    have h2 : (encH z).1.sameKey (key x) = true := h1
    rw [enc_same] at h2
    exact ⟨List.mem_of_find?_eq_some hf, by simpa using h2⟩
set_option maxRecDepth 100000 in
set_option maxHeartbeats 8000000 in
theorem from_calls (W : World) (g b n : Nat) (l : LimV) (L : List HeldP) (now host peer : Int) (h : TabAt W g b n l L now) (hr : Ris L) (hl : L.length ≤ 1000000000) :
    Calls Try.prog 44 #[.pointer (some ⟨g, 0, none⟩), .int .u32 host, .int .i64 peer] W fun e w' => e = .returned (.int .i64 (fromL L host peer)) ∧ W.grownBy w' none := by
  have hown := h.2
  obtain ⟨c0, c1, c3, c6, c7⟩ := tab_cells h.1
  have HR := Lib.hid hr
  have HL := Lib.hid hl
  clear h hr hl
  go_enter Try.func44, Try.ntmps44
  go_wp2_with (first
    | (at_range; refine wpList_range_own _ rfl _ 99 rfl 3 58 K3 Try.underlying99 heldR b n _ rfl hown ?_; intro w0 hrg0 hg0 hs0)
    | go_in)
  go_frame
  clear c0 c1 c3 c6 c7 hown
  go_loopw [7] (fun x7 wr => ∃ (left : Lit → Bool) (cnt : Nat), x7 = .int .i64 (cntL L host peer left) ∧ wr.ranges Try.prog 3 heldR b W.heap.size n (encL L) left cnt ∧ W.grownBy wr none)
    (fun _ wr => wr.rangeLeft b W.heap.size)
  case atStart => exact ⟨_, _, by rw [cnt_start]; rfl, hrg0, hg0⟩
  case round =>
    obtain ⟨left, cnt, hx7, hrg, hgw⟩ := hrel
    obtain ⟨m, hm⟩ : ∃ m, cntL L host peer left = m := ⟨_, rfl⟩
    have hml : m ≤ 1000000000 := by have := cnt_le L host peer left; have := HL.out; omega
    rw [hm] at hx7
    subst hx7
    go_wp2_with (first
      | (at_next; refine wpList_next_ranges _ rfl _ rfl 3 K3 heldR id id (fun key _ _ => ⟨key, rfl⟩) (fun v _ _ => ⟨v, rfl⟩) b W.heap.size n _ _ _ rfl hrg ?_ ?_)
      | go_in)
    · intro _ hl0
      go_wp2
      go_ret
      exact ⟨by rw [← cnt_end L host peer hl0, hm]; rfl, hgw⟩
    · intro x c kl yd yp w1 cnt1 hkey hlx hv hat hrg1 hlt hg1 hs1 hen
      obtain ⟨⟨p, hh, u⟩, hc, hy⟩ := heldR_inv hv
      have hc : c = .agg #[.int .i64 p, .int .u32 hh, .int .i64 u] := hc
      subst hc
      obtain ⟨xi, hx, rfl, _⟩ := Maps.keyOf_int_inv Try.underlying3 hkey
      obtain ⟨hmem, hxp⟩ := at_mem (q := (p, hh, u)) (x := xi) (fun zd => by rw [← show yd = encD (p, hh, u) from congrArg Prod.fst hy]; exact hat zd)
      have hxp : p = xi := hxp
      subst hxp
      have hx : x = .int .i64 p := hx
      subst hx
      have hst := cnt_step host peer (left := left) (p, hh, u) hlx HR.out hmem
      rw [hm] at hst
      have hgw1 := hgw.andThen hg1 (fun j hj => by cases hj; exact Or.inl (Nat.le_refl _))
      go_upto_region 5 with fail
      obtain ⟨W2, hW2⟩ : ∃ X, w1.alloc (.cells #[.int .i64 p, .int .u32 hh, .int .i64 u] 58) = X := ⟨_, rfl⟩
      have hga : w1.grownBy W2 none := by rw [← hW2]; exact World.grownBy_alloc w1 _ none
      have hrg2 : W2.ranges Try.prog 3 heldR b W.heap.size n (encL L) (fun z => left z && !z.sameKey (key p)) cnt1 := by rw [← hW2]; exact hrg1.alloc _
      have hgw2 := hgw1.andThen hga (fun j hj => by cases hj)
      have hcl := new_cellsN w1 58 #[.int .i64 p, .int .u32 hh, .int .i64 u]
      rw [hW2, hs1] at hcl
      obtain ⟨f0, f1, f2⟩ := held_cells (q := (p, hh, u)) hcl
      rw [hW2]
      clear hW2 hcl hrg1 hga hg1 hs1 hen hat hv hy hkey
      by_cases e1 : p = peer
      · have b1 : (p != peer) = false := by simpa using e1
        have hst : cntL L host peer (fun z => left z && !z.sameKey (key p)) = m := by rw [hst]; simp [e1]
        go_wp2
        go_roundw
        case rel => exact ⟨_, cnt1, by rw [hst], hrg2, hgw2⟩
        case measure => rw [hrg2.left_eq, hrg.left_eq]; exact hlt
      · have b1 : (p != peer) = true := by simpa using e1
        by_cases e2 : hh = host
        · have b2 : (hh == host) = true := by simpa using e2
          have hst : cntL L host peer (fun z => left z && !z.sameKey (key p)) = m + 1 := by rw [hst]; simp [e1, e2]
          have hw : wrap64 ((m : Int) + 1) = ((m + 1 : Nat) : Int) := by unfold wrap64; omega
          go_wp2
          go_roundw
          case rel => exact ⟨_, cnt1, by rw [hst, hw], hrg2, hgw2⟩
          case measure => rw [hrg2.left_eq, hrg.left_eq]; exact hlt
        · have b2 : (hh == host) = false := by simpa using e2
          have hst : cntL L host peer (fun z => left z && !z.sameKey (key p)) = m := by rw [hst]; simp [e2]
          go_wp2
          go_roundw
          case rel => exact ⟨_, cnt1, by rw [hst], hrg2, hgw2⟩
          case measure => rw [hrg2.left_eq, hrg.left_eq]; exact hlt
end Go.Proofs.Yteajlffchdbkjaa.Rv
namespace Go.Proofs.Yteajlffchdbkjaa.Rv
open Go.RowKit Go.Maps Go.Shelf Go.Proofs.YteajlffchdbkjaaW.PrintWords Go.Proofs.YteajlffchdbkjaaW.PrintLast Go.Proofs.YteajlffchdbkjaaW.PrintMore
set_option linter.unusedVariables false
set_option linter.unusedSimpArgs false
attribute [local go_sem] Oper.semAt_some
theorem zeroH (w : World) : (zeroValue 58).run Try.prog w = .ok (.agg (heldC (0, 0, 0))) w := by kernel_rfl
def I64 (p : Int) : Prop := -9223372036854775808 ≤ p ∧ p ≤ 9223372036854775807
theorem key_of {p : Int} (h : I64 p) : keyOf Try.prog 3 (.int .i64 p) = some (key p) := keyOf_int_mk Try.underlying3 (by obtain ⟨h1, h2⟩ := h; simp [Lit.wf, IntKind.min, IntKind.max, IntKind.signed, IntKind.bits]; omega)
set_option maxRecDepth 100000 in
set_option maxHeartbeats 4000000 in
theorem has_calls (W : World) (g b n : Nat) (l : LimV) (L : List HeldP) (now t p : Int) (h : TabAt W g b n l L now) (hp : I64 p) :
    Calls Try.prog 32 #[.pointer (some ⟨g, 0, none⟩), .int .i64 t, .int .i64 p] W fun e w' => e = .returned (.tuple #[.int .i64 (getL (overL L (onT now t)) p).2.2, .bool (hasL (overL L (onT now t)) p)]) ∧ TabAt w' g b n l (overL L (onT now t)) (onT now t) ∧ Touch g b W w' := by
  obtain ⟨T, hT⟩ : ∃ T, onT now t = T := ⟨_, rfl⟩
  have K := on_calls W g b n l L now t h
  rw [hT] at K ⊢
  have K := Lib.hid K
  have hkey := key_of hp
  obtain ⟨L', hL'⟩ : ∃ L', overL L T = L' := ⟨_, rfl⟩
  rw [hL'] at K ⊢
  obtain ⟨⟨gp, gh, gu⟩, hgp⟩ : ∃ q, getL L' p = q := ⟨_, rfl⟩
  rw [hgp]
  clear h hT hL'
  go_enter Try.func32, Try.ntmps32
  go_upto_region 2 with (go_at_call 43; refine K.out.mono ?_; rintro e w1 ⟨rfl, h1, ht1⟩)
  obtain ⟨c0, c1, c3, c6, c7⟩ := tab_cells h1.1
  have hown := h1.2
  go_upto_region 3 with (at_lookup; refine wpList_lookup_own_ok _ rfl _ _ 99 rfl 3 58 K3 Try.underlying99 heldR (zeroH _) (encD (0, 0, 0)) [] (heldR_mk (0, 0, 0)) b n _ rfl hown _ _ rfl hkey ?_; intro v ps hv; rw [enc_has, enc_at] at *; obtain ⟨q, rfl, hq⟩ := heldR_inv hv; have hq := encD_inj (congrArg Prod.fst hq); rw [hgp] at hq; subst hq; dsimp only [heldC])
  obtain ⟨X, hX⟩ : ∃ X, w1.alloc (.cells #[.int .i64 gp, .int .u32 gh, .int .i64 gu] 58) = X := ⟨_, rfl⟩
  have hgX : w1.grownBy X none := by rw [← hX]; exact World.grownBy_alloc w1 _ none
  have hcl := new_cellsN w1 58 #[.int .i64 gp, .int .u32 gh, .int .i64 gu]
  rw [hX] at hcl ⊢
  obtain ⟨f0, f1, f2⟩ := held_cells (q := (gp, gh, gu)) hcl
  clear hX hcl c0 c1 c3 c6 c7 hown
  go_wp2
  go_ret2
  exact ⟨rfl, h1.step hgX, ht1.trans (Touch.grown hgX)⟩
end Go.Proofs.Yteajlffchdbkjaa.Rv
