/-
  resv: all reservations, handed back as an iterator: its row of peers, its clone of the map. Conditions: as the theorem states them.
-/
import Derived.Test.YtglpjoijkinlbaaRc
import Derived.Test.YtglpjoijkinlbaaShelf
import Derived.Shelf.SortM.Plain
import Derived.Shelf.SortM.SortNone
namespace Go.Proofs.Ytglpjoijkinlbaa.Rv
open Go.RowKit Go.Maps Go.Shelf Go.Sort Go.Proofs.YtglpjoijkinlbaaW.PrintWords Go.Proofs.YtglpjoijkinlbaaW.PrintLast Go.Proofs.YtglpjoijkinlbaaW.PrintMore
set_option linter.unusedVariables false
set_option linter.unusedSimpArgs false
attribute [local go_sem] Oper.semAt_some
theorem asc_unique : ∀ {a b : List Int}, a.Perm b → a.Pairwise (fun x y => x ≤ y) → b.Pairwise (fun x y => x ≤ y) → a = b
  | [], b, h, _, _ => (List.nil_perm.1 h).symm ▸ rfl
  | x :: a, [], h, _, _ => absurd h.length_eq (by simp)
  | x :: a, y :: b, h, ha, hb => by
    obtain ⟨a1, a2⟩ := List.pairwise_cons.1 ha
    obtain ⟨b1, b2⟩ := List.pairwise_cons.1 hb
    have hx : x ∈ y :: b := h.mem_iff.1 (by simp)
    have hy : y ∈ x :: a := h.mem_iff.2 (by simp)
    have e : x = y := by
      rcases List.mem_cons.1 hx with e | hx
      · exact e
      · rcases List.mem_cons.1 hy with e | hy
        · exact e.symm
        · have := a1 y hy; have := b1 x hx; omega
    subst e
    rw [asc_unique (List.Perm.cons_inv h) a2 b2]
theorem keys_enc (L : List HeldP) : intKeys (encL L) = L.map (·.1) := by
  unfold intKeys encL
  dsimp only
  rw [List.map_map]
  rfl
theorem sorted_keys {L : List HeldP} (hr : Ris L) {ss : List Int} (h : ss.Perm (intKeys (encL L))) : ss.mergeSort (fun x y => decide (x ≤ y)) = L.map (·.1) := by
  rw [keys_enc] at h
  refine asc_unique ((List.mergeSort_perm ss _).trans h) ?_ ?_
  · have := List.pairwise_mergeSort (le := fun x y : Int => decide (x ≤ y)) (fun a b c h1 h2 => by simp at h1 h2 ⊢; omega) (fun a b => by simp; omega) ss
    exact this.imp (fun h => by simpa using h)
  · exact List.pairwise_map.2 (hr.imp (fun h => by omega))
theorem sortsA (m : Nat) : AnyZI.SortsIn Try.prog Try.sortedA_ren Fence.wide m :=
  ⟨fun blk off cap ss W hH hblk hsz => callsIn_wide.2 (AnyM.slices_Sort_int Try.sortA blk off cap ss W hH hblk hsz),
   fun p cap W => callsIn_wide.2 (AnyM.slices_Sort_int_none Try.sortA p cap W)⟩
set_option maxRecDepth 100000 in
set_option maxHeartbeats 4000000 in
theorem sorted_calls (w : World) (b n : Nat) (L : List HeldP) (hown : w.ownsMap Try.prog 3 heldR b n (encL L)) (hr : Ris L) (hl : L.length ≤ 1000000) :
    Calls Try.prog 14 #[.func (.func 24) #[] #[.pointer (some ⟨w.heap.size, 0, none⟩)]] (w.alloc (.cells #[.map (some b)] 49)) fun e w' => ∃ (A : Option Addr) (m c : Nat), e = .returned (.slice A m c) ∧ m = L.length ∧ w'.ownsRow w.heap.size 3 1 (.slice A m c) L.length ((L.map (·.1)).map encZ) ∧ Below w.heap.size w w' := by
  refine (callsIn_wide (n := 5)).1 ?_
  have hbl := hown.lt
  have hsz : Maps.size (encL L) = L.length := enc_size L
  have hseq : SeqGives Fence.wide 2 Try.prog 24 #[.pointer (some ⟨w.heap.size, 0, none⟩)] encZ (fun ss => ss.Perm (intKeys (encL L))) (Maps.size (encL L)) (w.alloc (.cells #[.map (some b)] 49)) :=
    AnyZI.keys_gives (ρ := Try.keysA_ren) { Try.keysA with } Fence.wide _ trivial rfl (by omega) w.heap.size b n (encL L) _ (by simp) (by simp) (by
      obtain ⟨es, clock, hb, Ft, hs, hD⟩ := hown
      exact ⟨es, clock, (Below.heap_alloc _ _ b hbl).trans hb, Ft, hs, hD⟩)
  have cS := AnyZI.sorted_in Try.sortedA Fence.wide 5 trivial trivial trivial trivial rfl (by omega) (sortsA _) (enters_of Try.func23 (by kernel_rfl) rfl) 24 #[.pointer (some ⟨w.heap.size, 0, none⟩)] trivial (enters_of Try.func24 (by kernel_rfl) rfl) _ _ (by rw [hsz]; unfold maxLen; omega) (by rw [hsz]; omega) _ hseq
  change CallsIn _ _ Try.prog 14 _ _ _ at cS
  refine cS.mono ?_
  rintro e w' ⟨v, ss, rfl, hS, hrow, hnil, hb⟩
  have hk := sorted_keys hr hS
  have hlen : ss.length = L.length := by rw [hS.length_eq, keys_enc, List.length_map]
  rw [hk, hlen] at hrow
  obtain ⟨A, m, c, hv, hm⟩ : ∃ (A : Option Addr) (m c : Nat), v = .slice A m c ∧ m = L.length := by
    rcases hrow.2 with ⟨h1, h2⟩ | ⟨gg, cap, cur, h1, _⟩
    · exact ⟨none, 0, 0, h1, h2.symm⟩
    · exact ⟨_, _, _, h1, rfl⟩
  subst hv
  exact ⟨A, m, c, rfl, hm, ownsRow_base_a hrow (by simp), ((Below.refl _ w).alloc (Nat.le_refl _) _).trans (hb.mono (by simp))⟩
theorem keysf_calls (w : World) (mb : Option Nat) : Calls Try.prog 15 #[.map mb] w fun e w' => e = .returned (.func (.func 24) #[] #[.pointer (some ⟨w.heap.size, 0, none⟩)]) ∧ w' = w.alloc (.cells #[.map mb] 49) :=
  (callsIn_wide (n := 5)).1 (AnyZI.keys_in Try.keysA Fence.wide 5 trivial rfl mb w)
theorem clone_calls (w : World) (b n : Nat) (D : DataW Unit) (hown : w.ownsMap Try.prog 3 heldR b n D) : Calls Try.prog 16 #[.map (some b)] w fun e w' => e = .returned (.map (some w.heap.size)) ∧ w'.ownsMap Try.prog 3 heldR w.heap.size n D ∧ w'.ownsMap Try.prog 3 heldR b n D ∧ Below w.heap.size w w' :=
  AnyW.maps_Clone_owns Try.cloneM 3 heldR b n D w hown
end Go.Proofs.Ytglpjoijkinlbaa.Rv
