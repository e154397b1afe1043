/-
  FlowComes: what the walk of the law leans on: parts of a text, what they leave in a receiver, rows of parts in memory, the truth at a place (at). No condition but the bounds.
-/
import Derived.Test.YtgkcncdanhkkoaaFv
namespace Go.Proofs.Ytgkcncdanhkkoaa.Fw
open Go.RowKit Go.Maps Go.Proofs.Ytgkcncdanhkkoaa.Sp Go.Proofs.YtgkcncdanhkkoaaW.PrintWords Go.Proofs.YtgkcncdanhkkoaaW.PrintLast Go.Proofs.YtgkcncdanhkkoaaW.PrintMore
set_option linter.unusedVariables false
set_option linter.unusedSimpArgs false
/-! ### plain -/
/-- What came is the text's, and was sent. -/
def Matches (data : List Int) (far : Nat) (G : Nat → Option Int) : Prop := ∀ i c, G i = some c → data[i]? = some c ∧ i < far
def PartOk (data : List Int) (far : Nat) (p : Int × List Int) : Prop := ∃ o m : Nat, p = ((o : Int), (data.drop o).take m) ∧ 1 ≤ m ∧ m ≤ 500 ∧ o + m ≤ far
theorem matches_none (data : List Int) (far : Nat) : Matches data far (fun _ => none) := fun i c h => by cases h
theorem matches_far {data : List Int} {far far' : Nat} {G : Nat → Option Int} (h : Matches data far G) (hf : far ≤ far') : Matches data far' G := fun i c hi => ⟨(h i c hi).1, Nat.lt_of_lt_of_le (h i c hi).2 hf⟩
theorem partOk_far {data : List Int} {far far' : Nat} {p : Int × List Int} (h : PartOk data far p) (hf : far ≤ far') : PartOk data far' p := by
  obtain ⟨o, m, h1, h2, h3, h4⟩ := h
  exact ⟨o, m, h1, h2, h3, by omega⟩
theorem matches_fill {data : List Int} {far : Nat} {G : Nat → Option Int} {o m : Nat} (h : Matches data far G) (hm : o + m ≤ far) : Matches data far (fillG G o ((data.drop o).take m)) := fun i c hi => by
  rcases fill_val hi with hi | ⟨_, h1, h2⟩
  · exact h i c hi
  · rw [List.getElem?_take] at h2
    split at h2
    · rw [List.getElem?_drop, show o + (i - o) = i by omega] at h2
      exact ⟨h2, by omega⟩
    · cases h2
/-- What is there stays. -/
def Keeps (G G' : Nat → Option Int) : Prop := ∀ i c, G i = some c → G' i = some c
theorem Keeps.refl (G : Nat → Option Int) : Keeps G G := fun _ _ h => h
theorem Keeps.trans {a b c : Nat → Option Int} (h : Keeps a b) (k : Keeps b c) : Keeps a c := fun i x hx => k i x (h i x hx)
theorem keeps_fill (G : Nat → Option Int) (o : Nat) (l : List Int) : Keeps G (fillG G o l) := fun i c h => by unfold fillG; rw [h]
def Upto (G : Nat → Option Int) (e : Nat) : Prop := ∀ i, i < e → G i ≠ none
theorem Upto.keeps {G G' : Nat → Option Int} {e : Nat} (h : Upto G e) (k : Keeps G G') : Upto G' e := fun i hi hn => by
  cases hg : G i with
  | none => exact h i hi hg
  | some c => rw [k i c hg] at hn; cases hn
theorem upto_fill {data : List Int} {G : Nat → Option Int} {e m : Nat} (h : Upto G e) (hm : e + m ≤ data.length) : Upto (fillG G e ((data.drop e).take m)) (e + m) := fun i hi hn => by
  unfold fillG at hn
  cases hg : G i with
  | some c => rw [hg] at hn; cases hn
  | none =>
    rw [hg] at hn
    dsimp only at hn
    have : e ≤ i := by
      by_cases h1 : e ≤ i
      · exact h1
      · exact absurd hg (h i (by omega))
    rw [if_pos this, List.getElem?_take, if_pos (by omega), List.getElem?_drop] at hn
    have := List.getElem?_eq_none_iff.1 hn
    omega
/-- The bytes without a gap are the text's first. -/
theorem b_take {data b : List Int} {far : Nat} {G : Nat → Option Int} (h1 : ∀ i, i < b.length → G i = b[i]?) (hm : Matches data far G) (hf : far ≤ data.length) : b = data.take b.length ∧ b.length ≤ far := by
  have hl : b.length ≤ far := by
    rcases Nat.eq_zero_or_pos b.length with h0 | h0
    · omega
    · have e := h1 (b.length - 1) (by omega)
      rw [List.getElem?_eq_getElem (by omega)] at e
      have := (hm _ _ e).2
      omega
  refine ⟨?_, hl⟩
  apply List.ext_getElem?
  intro i
  by_cases hi : i < b.length
  · rw [List.getElem?_take, if_pos hi]
    have e := h1 i hi
    rw [List.getElem?_eq_getElem hi] at e
    rw [(hm _ _ e).1, List.getElem?_eq_getElem hi]
  · rw [List.getElem?_eq_none (by omega), List.getElem?_eq_none (by rw [List.length_take]; omega)]
theorem b_len {b : List Int} {G : Nat → Option Int} {e : Nat} (h2 : G b.length = none) (hu : Upto G e) : e ≤ b.length := by
  rcases Nat.lt_or_ge b.length e with h | h
  · exact absurd h2 (hu _ h)
  · exact h
theorem upto_b {data : List Int} {G : Nat → Option Int} {e : Nat} (h1 : ∀ i, i < (data.take e).length → G i = (data.take e)[i]?) (he : e ≤ data.length) : Upto G e := fun i hi hn => by
  have hl : (data.take e).length = e := by rw [List.length_take]; omega
  have := h1 i (by omega)
  rw [hn, List.getElem?_eq_getElem (by omega)] at this
  cases this
/-! ### the objects -/
theorem Sep.fourth {w : World} {X Y Z V : Ob} {Xs : List Ob} {av : Nat → Prop} (h : Sep w (X :: Y :: Z :: V :: Xs) av) : Sep w (V :: X :: Y :: Z :: Xs) av := by
  obtain ⟨ok, h1, h2, h3, h4⟩ := h
  exact Sep.swap ⟨ok, h1, h2, h3, Fw.Sep.third h4⟩
theorem Sep.back4 {w : World} {X Y Z V : Ob} {Xs : List Ob} {av : Nat → Prop} (h : Sep w (V :: X :: Y :: Z :: Xs) av) : Sep w (X :: Y :: Z :: V :: Xs) av := by
  obtain ⟨ok, h1, h2, h3, h4⟩ := Sep.swap h
  exact ⟨ok, h1, h2, h3, Fw.Sep.back h4⟩
def dP : Kd (Int × List Int) := Kd.pair (Kd.int .i64) (Kd.slice 5 (Kd.int .u8))
def lateOb (base : Nat) (v : Value) (L : List (Int × List Int)) : Ob := ⟨fun w ok => dP.R 29 w base ok v L, fun h hm => Kd.R_step h hm⟩
theorem late_new {base : Nat} {w : World} {Xs : List Ob} {av : Nat → Prop} (h : Sep w Xs av) : Sep w (lateOb base (.slice none 0 0) [] :: Xs) av :=
  ⟨fun _ => False, Kd.R_nil _ _ _ _ _, fun k hk => hk.elim, fun k _ hk => hk, h.sub (fun k hk => hk.elim id (fun a => a.elim))⟩
theorem infoP : (Try.prog.info? 29).map (fun i => (i.zero, i.size, i.bytes)) = some (some (.agg #[.int .i64 0, .slice none 0 0]), 2, 32) := by kernel_rfl
/-- The first takes blocks of av's. -/
theorem Sep.taken {w w1 : World} {X X' : Ob} {Xs : List Ob} {av ok ok' : Nat → Prop} (h2 : ∀ k, ok k → k < w.heap.size) (h4 : Sep w Xs (fun k => av k ∨ ok k))
    (k1 : X'.P w1 ok') (k2 : ∀ k, ok' k → av k ∨ ok k ∨ w.heap.size ≤ k) (k3 : ∀ k, ok' k → k < w1.heap.size) (k4 : Off (fun k => ok k ∨ w.heap.size ≤ k) w w1) : Sep w1 (X' :: Xs) (fun _ => False) := by
  have k5 : Off ok w w1 := k4.mono (fun k hk hlt => hk.elim id (fun a => by omega))
  refine ⟨ok', k1, k3, fun k hk e => hk.elim, ?_⟩
  refine (Sep.off ok (av := av) (h4.sub (fun k hk => hk.imp id (fun a => a.1))) k5).sub (fun k hk => ?_)
  rcases hk with a | a
  · exact a.elim
  · rcases k2 k a with b | b | b
    · exact .inl b
    · exact .inr (.inl ⟨b, h2 k b⟩)
    · exact .inr (.inr ⟨b, k3 k a⟩)
/-- What an append to the late ones wants, and what it leaves: v is a part's bytes in blocks of av's. -/
theorem late_open {base : Nat} {w : World} {v pv : Value} {L : List (Int × List Int)} {Xs : List Ob} {av : Nat → Prop} {o : Int} {l : List Int} (h : Sep w (lateOb base v L :: Xs) av) (hp : (Kd.int .u8).R 5 w base av pv l) :
    ∃ ok : Nat → Prop, dP.R 29 w base ok v L ∧ dP.M w base av (o, l) [.int .i64 o, pv] ∧ (∀ k, av k → ok k ∧ some k ≠ v.ownBlock) ∧ (∀ k, w.heap.size ≤ k → ok k) ∧
      ∀ (v1 : Value) (w1 : World), dP.R 29 w1 base ok v1 (L ++ [(o, l)]) → w.grownBy w1 v.ownBlock → Sep w1 (lateOb base v1 (L ++ [(o, l)]) :: Xs) (fun _ => False) := by
  obtain ⟨ok, h1, h2, h3, h4⟩ := h
  have h1' : dP.R 29 w base ok v L := h1
  refine ⟨fun k => av k ∨ ok k ∨ w.heap.size ≤ k, Kd.R_mono h1' (fun k hk => .inr (.inl hk)), ⟨[_], [_], rfl, rfl, _, rfl, hp⟩, fun k hk => ⟨.inl hk, fun e => h3 k hk (h1'.1 k e.symm)⟩, fun k hk => .inr (.inr hk), fun v1 w1 hR hg => ?_⟩
  exact Sep.taken (X := lateOb base v L) (X' := lateOb base v1 (L ++ [(o, l)])) (av := av) h2 h4 (show (lateOb base v1 (L ++ [(o, l)])).P w1 (fun k => (av k ∨ ok k ∨ w.heap.size ≤ k) ∧ k < w1.heap.size) from Kd.R_mono (Kd.R_bound hR) (fun k hk => ⟨hk.1, hk.2.2.1⟩)) (fun k hk => hk.1) (fun k hk => hk.2) (Off.grown hg (fun k hk => .inl (h1'.1 k hk)))
theorem late_val {base : Nat} {w : World} {v : Value} {L : List (Int × List Int)} {Xs : List Ob} {av : Nat → Prop} (h : Sep w (lateOb base v L :: Xs) av) : ∃ A c, v = .slice A L.length c := by
  obtain ⟨ok, hR⟩ := h.head
  have hR' : dP.R 29 w base ok v L := hR
  obtain ⟨A, c, h1, _⟩ := Kd.R_reads hR'
  exact ⟨A, c, h1⟩
/-- A late part, read: its place, its bytes' slice. -/
theorem late_at {base : Nat} {w : World} {A : Option Addr} {n c : Nat} {L : List (Int × List Int)} {Xs : List Ob} {av : Nat → Prop} (h : Sep w (lateOb base (.slice A n c) L :: Xs) av) (i : Nat) (x : Int × List Int) (hx : L[i]? = some x) :
    ∃ ad A1 c1, A = some ad ∧ w.cell? (ad.add (i * 2)) = some (.int .i64 x.1) ∧ w.cell? ⟨(ad.add (i * 2)).block, (ad.add (i * 2)).off + 1, none⟩ = some (.slice A1 x.2.length c1) ∧ x.2.length ≤ c1 ∧ (Kd.int .u8).C w A1 x.2.length x.2 := by
  obtain ⟨ok, hR⟩ := h.head
  have hR' : dP.R 29 w base ok (.slice A n c) L := hR
  obtain ⟨hn, _, hC⟩ := Kd.R_reads' hR'
  have hi := (List.getElem?_eq_some_iff.1 hx).1
  obtain ⟨ad, c, e, _, hK, hc⟩ := Kd.C_get hC ((0 : Int), ([] : List Int)) i (by omega) (by omega)
  have hg : L.getD (i : Int).toNat ((0 : Int), ([] : List Int)) = x := by rw [Int.toNat_natCast, List.getD_eq_getElem?_getD, hx]; rfl
  rw [hg] at hK
  obtain ⟨_, _, rfl, rfl, A1, c1, rfl, hl, hC⟩ := hK
  exact ⟨ad, A1, c1, e, hc 0 _ rfl, by rw [← add_field _ _ 1 (by omega)]; exact hc 1 _ rfl, hl, hC⟩
/-! ### at -/
theorem at_calls (w : World) (A : Option Addr) (c : Nat) (l : List Bool) (i : Nat) (hr : Kd.bool.C w A l.length l) (hi : i ≤ 1000000000) (hl : l.length ≤ 1000000000) :
    Calls Try.prog 27 #[.slice A l.length c, .int .i64 i] w fun e w' => (e = .returned (.bool true) ∨ e = .returned (.bool false)) ∧ w' = w := by
  by_cases h0 : 0 < l.length
  · have g0 : decide (0 < (l.length : Int)) = true := decide_eq_true (by omega)
    have g0n : decide (0 < l.length) = true := decide_eq_true h0
    obtain ⟨j, hj⟩ : ∃ j : Nat, (i : Int) % (l.length : Int) = (j : Int) := ⟨i % l.length, by rw [Int.natCast_emod]⟩
    have hjl : (j : Int) < (l.length : Int) := by rw [← hj]; exact Int.emod_lt_of_pos (i : Int) (show (0 : Int) < (l.length : Int) by omega)
    have hne : ((l.length : Int) == 0) = false := by rw [beq_eq_false_iff_ne]; omega
    obtain ⟨ad, rfl, hx⟩ := Kd.at_bool hr (j : Int) (by omega) hjl
    rw [Int.toNat_natCast] at hx
    have hjn : j < l.length := by exact Int.ofNat_lt.1 hjl
    obtain ⟨x, hxe⟩ : ∃ x, rdOf false l (j : Int) = x := ⟨_, rfl⟩
    rw [hxe] at hx
    clear hr hxe
    go_enter Try.func27, Try.ntmps27
    go_wp2
    go_ret
    refine ⟨?_, rfl⟩
    cases x
    · exact .inr rfl
    · exact .inl rfl
  · have g0 : decide (0 < (l.length : Int)) = false := decide_eq_false (by omega)
    have g0n : decide (0 < l.length) = false := decide_eq_false h0
    clear hr
    go_enter Try.func27, Try.ntmps27
    go_wp2
    go_ret
    exact ⟨.inr rfl, rfl⟩
end Go.Proofs.Ytgkcncdanhkkoaa.Fw
