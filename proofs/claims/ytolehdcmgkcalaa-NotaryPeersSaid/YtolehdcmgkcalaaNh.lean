/-
  NotaryHolds: the walk of the law: whatever the two steps and the script: it returns true, and nothing that lay has turned. Condition: the texts are bytes, the numbers are of their kinds.
-/
import Derived.Test.YtolehdcmgkcalaaNp
import Derived.StillTailTactics
namespace Go.Proofs.Ytolehdcmgkcalaa.Nt
open Go.RowKit Go.Maps Go.Proofs.YtolehdcmgkcalaaW.PrintWords Go.Proofs.YtolehdcmgkcalaaW.PrintLast Go.Proofs.YtolehdcmgkcalaaW.PrintMore
set_option linter.unusedVariables false
set_option linter.unusedSimpArgs false

/-- Behind the guards, the notary is made and the first text minted. -/
def HoldsTail (w : World) (W : World) (base : Nat) (g : Nat) (L : List Ent) : Prop := OneAt W base g L (fun _ => False) ∧ Below w.heap.size w W
theorem checkF_zero {L : List Ent} {p : Int} {t : List Int} {tag : Int} : checkF L p t tag = 0 ↔ (1 ≤ tag ∧ tag ≤ L.length ∧ L[(tag - 1).toNat]? = some (p, t)) := by
  unfold checkF
  by_cases h : tag < 1 ∨ (L.length : Int) < tag
  · rw [if_pos h]
    constructor
    · intro h; cases h
    · intro h1; omega
  · rw [if_neg h]
    by_cases h2 : L[(tag - 1).toNat]? = some (p, t)
    · rw [if_pos h2]; exact ⟨fun _ => ⟨by omega, by omega, h2⟩, fun _ => rfl⟩
    · rw [if_neg h2]
      constructor
      · intro h; cases h
      · intro h1; exact absurd h1.2.2 h2
theorem checkF_or (L : List Ent) (p : Int) (t : List Int) (tag : Int) : checkF L p t tag = 0 ∨ checkF L p t tag = 12 := by
  unfold checkF
  split
  · exact .inr rfl
  · split
    · exact .inl rfl
    · exact .inr rfl
theorem mintF_head {L : List Ent} {p : Int} {t : List Int} {x : Ent} (h : L[0]? = some x) : (mintF L p t).2.2[0]? = some x := by
  have hl : 0 < L.length := (List.getElem?_eq_some_iff.1 h).1
  unfold mintF
  split
  · exact h
  · split
    · exact h
    · rw [List.getElem?_append_left hl]; exact h
theorem mintF_mem {L : List Ent} {p : Int} {t : List Int} {x : Ent} (h : x ∈ (mintF L p t).2.2) : x ∈ L ∨ x = (p, t) := by
  unfold mintF at h
  split at h
  · exact .inl h
  · split at h
    · exact .inl h
    · rcases List.mem_append.1 h with h | h
      · exact .inl h
      · exact .inr (List.mem_singleton.1 h)
theorem mintF_first {p : Int} {t : List Int} (h1 : 1 ≤ p) (h2 : p ≤ 2147483647) : mintF [] p t = (1, 0, [(p, t)]) := by
  unfold mintF
  rw [if_neg (by omega), if_neg (by simp)]
  rfl
set_option maxRecDepth 100000 in
set_option maxHeartbeats 4000000 in
theorem holds_guard (w : World) (b1 : Bool) (p1 : Int) (t1 : List Int) (g1 : Int) (A1 : Option Addr) (c1 : Nat) (b2 : Bool) (p2 : Int) (t2 : List Int) (g2 : Int) (A2 : Option Addr) (c2 : Nat) (A : Option Addr) (c : Nat) (l : List Step) (hr : dDo.C w A l.length l) (hc : l.length ≤ c) (hlen : l.length ≤ 140737488355328)
    (hgd : p1 < 1 ∨ 2147483647 < p1 ∨ 200 < t1.length ∨ 200 < t2.length ∨ smallB l = false) :
    Calls Try.prog 4 #[.agg #[.bool b1, .int .i64 p1, .slice A1 t1.length c1, .int .u64 g1], .agg #[.bool b2, .int .i64 p2, .slice A2 t2.length c2, .int .u64 g2], .slice A l.length c] w fun e w' => e = .returned (.bool true) ∧ Below w.heap.size w w' := by
  have HA := Lib.hid (fun W => awake_calls W)
  have HS := Lib.hid (fun W (hW : Below w.heap.size w W) => small_calls W A c l (Kd.C_below hr hW) hc hlen)
  clear hr
  obtain ⟨W, hW⟩ : ∃ W, (w.alloc (.cells #[.bool b1, .int .i64 p1, .slice A1 t1.length c1, .int .u64 g1] 34)).alloc (.cells #[.bool b2, .int .i64 p2, .slice A2 t2.length c2, .int .u64 g2] 34) = W := ⟨_, rfl⟩
  have hbW : Below w.heap.size w W := by rw [← hW]; exact ((Below.refl _ w).alloc (Nat.le_refl _) _).alloc (by simp) _
  have e1 : W.heap[w.heap.size]? = some (.cells #[.bool b1, .int .i64 p1, .slice A1 t1.length c1, .int .u64 g1] 34 (0, 0)) := by
    rw [← hW]; exact (((Below.refl (w.heap.size + 1) (w.alloc _)).alloc (by simp) _).block w.heap.size (by omega)).trans (Boxed2 w _ _)
  have e2 : W.heap[w.heap.size + 1]? = some (.cells #[.bool b2, .int .i64 p2, .slice A2 t2.length c2, .int .u64 g2] 34 (0, 0)) := by
    rw [← hW]; have h := Boxed2 (w.alloc (.cells #[.bool b1, .int .i64 p1, .slice A1 t1.length c1, .int .u64 g1] 34)) 34 #[.bool b2, .int .i64 p2, .slice A2 t2.length c2, .int .u64 g2]; rw [World.size_alloc] at h; exact h
  have HE1 := Lib.hid e1
  have HE2 := Lib.hid e2
  have HB := Lib.hid hbW
  clear e1 e2 hbW
  go_enter Try.func4, Try.ntmps4
  go_upto_region 3 with (go_at_call 7; refine (HA.out _).mono ?_; rintro e w1 ⟨rfl, hb1⟩)
  have hlt := HE2.out
  have hl2 := (Array.getElem?_eq_some_iff.1 hlt).1
  have x1 := (hb1.block _ (by omega)).trans HE1.out
  have x2 := (hb1.block _ hl2).trans HE2.out
  have d1 := cell_cells2 x1 1 (by simp)
  have d2 := cell_cells2 x1 2 (by simp)
  have f1 := cell_cells2 x2 1 (by simp)
  have f2 := cell_cells2 x2 2 (by simp)
  simp only [List.getElem_toArray, List.getElem_cons_zero, List.getElem_cons_succ] at d1 d2 f1 f2
  have HB1 := Lib.hid (HB.out.trans (hb1.mono HB.out.size))
  clear hlt x1 x2 hb1 hW
  by_cases h1 : p1 < 1
  · have q : decide (p1 < 1) = true := decide_eq_true h1
    go_wp2
    go_ret
    exact ⟨rfl, HB1.out⟩
  · have q1 : decide (p1 < 1) = false := decide_eq_false h1
    by_cases h2 : 2147483647 < p1
    · have q : decide (2147483647 < p1) = true := decide_eq_true h2
      go_wp2
      go_ret
      exact ⟨rfl, HB1.out⟩
    · have q2 : decide (2147483647 < p1) = false := decide_eq_false h2
      by_cases h3 : 200 < t1.length
      · have q : decide (200 < (t1.length : Int)) = true := decide_eq_true (by omega)
        go_wp2
        go_ret
        exact ⟨rfl, HB1.out⟩
      · have q3 : decide (200 < (t1.length : Int)) = false := decide_eq_false (by omega)
        by_cases h4 : 200 < t2.length
        · have q : decide (200 < (t2.length : Int)) = true := decide_eq_true (by omega)
          go_wp2
          go_ret
          exact ⟨rfl, HB1.out⟩
        · have q4 : decide (200 < (t2.length : Int)) = false := decide_eq_false (by omega)
          have h5 : smallB l = false := by rcases hgd with h | h | h | h | h <;> first | exact h | omega
          go_wp2_with (go_at_call 8; refine (HS.out _ HB1.out).mono ?_; rintro e w2 ⟨rfl, rfl⟩; rw [h5])
          go_ret
          exact ⟨rfl, HB1.out⟩
end Go.Proofs.Ytolehdcmgkcalaa.Nt
