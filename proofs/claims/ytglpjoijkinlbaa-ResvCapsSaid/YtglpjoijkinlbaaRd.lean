/-
  resv: how many of other peers are from a host. Conditions: as the theorem states them.
-/
import Derived.Test.YtglpjoijkinlbaaRc
namespace Go.Proofs.Ytglpjoijkinlbaa.Rv
open Go.RowKit Go.Maps Go.Shelf Go.Proofs.YtglpjoijkinlbaaW.PrintWords Go.Proofs.YtglpjoijkinlbaaW.PrintLast Go.Proofs.YtglpjoijkinlbaaW.PrintMore
set_option linter.unusedVariables false
set_option linter.unusedSimpArgs false
attribute [local go_sem] Oper.semAt_some
theorem at_mem {L : List HeldP} {x : Int} {q : HeldP} (h : ∀ zd, (encL L).atKey (key x) zd = encD q) : q ∈ L ∧ q.1 = x := by
  have h0 := h .nil
  unfold encL DataW.atKey at h0
  dsimp only at h0
  rw [List.find?_map] at h0
  cases hf : L.find? ((fun p => p.1.sameKey (key x)) ∘ encH) with
  | none => rw [hf] at h0; cases h0
  | some z =>
    rw [hf] at h0
    have e := encD_inj h0
    subst e
    have h1 := List.find?_some hf
    have h2 : (encH z).1.sameKey (key x) = true := h1
    rw [enc_same] at h2
    exact ⟨List.mem_of_find?_eq_some hf, by simpa using h2⟩
set_option maxRecDepth 100000 in
set_option maxHeartbeats 8000000 in
theorem from_calls (W : World) (g b n : Nat) (l : LimV) (L : List HeldP) (now host peer : Int) (h : TabAt W g b n l L now) (hr : Ris L) (hl : L.length ≤ 1000000000) :
    Calls Try.prog 18 #[.pointer (some ⟨g, 0, none⟩), .int .u32 host, .int .i64 peer] W fun e w' => e = .returned (.int .i64 (fromL L host peer)) ∧ W.grownBy w' none := by
  have hown := h.2
  obtain ⟨c0, c1, c3, c6, c7⟩ := tab_cells h.1
  have HR := Lib.hid hr
  have HL := Lib.hid hl
  clear h hr hl
  go_enter Try.func18, Try.ntmps18
  go_wp2_with (first
    | (at_range; refine wpList_range_own _ rfl _ 49 rfl 3 38 K3 Try.underlying49 heldR b n _ rfl hown ?_; intro w0 hrg0 hg0 hs0)
    | go_in)
  go_frame
  clear c0 c1 c3 c6 c7 hown
  go_loopw [7] (fun x7 wr => ∃ (left : Lit → Bool) (cnt : Nat), x7 = .int .i64 (cntL L host peer left) ∧ wr.ranges Try.prog 3 heldR b W.heap.size n (encL L) left cnt ∧ W.grownBy wr none)
    (fun _ wr => wr.rangeLeft b W.heap.size)
  case atStart => exact ⟨_, _, by rw [cnt_start]; rfl, hrg0, hg0⟩
  case round =>
    obtain ⟨left, cnt, hx7, hrg, hgw⟩ := hrel
    obtain ⟨m, hm⟩ : ∃ m, cntL L host peer left = m := ⟨_, rfl⟩
    have hml : m ≤ 1000000000 := by have := cnt_le L host peer left; have := HL.out; omega
    rw [hm] at hx7
    subst hx7
    go_wp2_with (first
      | (at_next; refine wpList_next_ranges _ rfl _ rfl 3 K3 heldR id id (fun key _ _ => ⟨key, rfl⟩) (fun v _ _ => ⟨v, rfl⟩) b W.heap.size n _ _ _ rfl hrg ?_ ?_)
      | go_in)
    · intro _ hl0
      go_wp2
      go_ret
      exact ⟨by rw [← cnt_end L host peer hl0, hm]; rfl, hgw⟩
    · intro x c kl yd yp w1 cnt1 hkey hlx hv hat hrg1 hlt hg1 hs1 hen
      obtain ⟨⟨p, hh, u⟩, hc, hy⟩ := heldR_inv hv
      have hc : c = .agg #[.int .i64 p, .int .u32 hh, .int .i64 u] := hc
      subst hc
      obtain ⟨xi, hx, rfl, _⟩ := Maps.keyOf_int_inv Try.underlying3 hkey
      obtain ⟨hmem, hxp⟩ := at_mem (q := (p, hh, u)) (x := xi) (fun zd => by rw [← show yd = encD (p, hh, u) from congrArg Prod.fst hy]; exact hat zd)
      have hxp : p = xi := hxp
      subst hxp
      have hx : x = .int .i64 p := hx
      subst hx
      have hst := cnt_step host peer (left := left) (p, hh, u) hlx HR.out hmem
      rw [hm] at hst
      have hgw1 := hgw.andThen hg1 (fun j hj => by cases hj; exact Or.inl (Nat.le_refl _))
      go_upto_region 5 with fail
      obtain ⟨W2, hW2⟩ : ∃ X, w1.alloc (.cells #[.int .i64 p, .int .u32 hh, .int .i64 u] 38) = X := ⟨_, rfl⟩
      have hga : w1.grownBy W2 none := by rw [← hW2]; exact World.grownBy_alloc w1 _ none
      have hrg2 : W2.ranges Try.prog 3 heldR b W.heap.size n (encL L) (fun z => left z && !z.sameKey (key p)) cnt1 := by rw [← hW2]; exact hrg1.alloc _
      have hgw2 := hgw1.andThen hga (fun j hj => by cases hj)
      have hcl := new_cellsN w1 38 #[.int .i64 p, .int .u32 hh, .int .i64 u]
      rw [hW2, hs1] at hcl
      obtain ⟨f0, f1, f2⟩ := held_cells (q := (p, hh, u)) hcl
      rw [hW2]
      clear hW2 hcl hrg1 hga hg1 hs1 hen hat hv hy hkey
      by_cases e1 : p = peer
      · have b1 : (p != peer) = false := by simpa using e1
        have hst : cntL L host peer (fun z => left z && !z.sameKey (key p)) = m := by rw [hst]; simp [e1]
        go_wp2
        go_roundw
        case rel => exact ⟨_, cnt1, by rw [hst], hrg2, hgw2⟩
        case measure => rw [hrg2.left_eq, hrg.left_eq]; exact hlt
      · have b1 : (p != peer) = true := by simpa using e1
        by_cases e2 : hh = host
        · have b2 : (hh == host) = true := by simpa using e2
          have hst : cntL L host peer (fun z => left z && !z.sameKey (key p)) = m + 1 := by rw [hst]; simp [e1, e2]
          have hw : wrap64 ((m : Int) + 1) = ((m + 1 : Nat) : Int) := by unfold wrap64; omega
          go_wp2
          go_roundw
          case rel => exact ⟨_, cnt1, by rw [hst, hw], hrg2, hgw2⟩
          case measure => rw [hrg2.left_eq, hrg.left_eq]; exact hlt
        · have b2 : (hh == host) = false := by simpa using e2
          have hst : cntL L host peer (fun z => left z && !z.sameKey (key p)) = m := by rw [hst]; simp [e2]
          go_wp2
          go_roundw
          case rel => exact ⟨_, cnt1, by rw [hst], hrg2, hgw2⟩
          case measure => rw [hrg2.left_eq, hrg.left_eq]; exact hlt
end Go.Proofs.Ytglpjoijkinlbaa.Rv
