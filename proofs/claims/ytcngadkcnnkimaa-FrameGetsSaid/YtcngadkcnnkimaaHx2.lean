-- Out of handprint.py, a program of this session that turns the kit's print: not the kit's print itself. Lean checks it.
import Derived.Test.YtcngadkcnnkimaaHx0
import Derived.Test.YtcngadkcnnkimaaHx1
namespace Go.Proofs.Ytcngadkcnnkimaa.H
open Go.RowKit Go.Proofs.YtcngadkcnnkimaaW.PrintWords Go.Proofs.YtcngadkcnnkimaaW.PrintLast Go.Proofs.YtcngadkcnnkimaaW.PrintMore
attribute [local go_sem] max2_int min2_int max_two min_two max_three min_three max_four min_four   -- for this text's walks alone
set_option linter.unusedVariables false
set_option linter.unusedSimpArgs false

/-! ### frame_Count: function 13 -/
def frame_Count.l0 : Nat → List Int → Int → Option Int
  | 0, _, _ => none
  | k + 1, x0, x1 => if 0 < (x0.length : Int) then ((frame_Get.f k x0).bind fun t => (if t.2.2 = 0 then (if 0 ≤ t.2.1 then (if t.2.1 ≤ (x0.length : Int) then (if x1 < 100000000000000 then (frame_Count.l0 k (x0.drop t.2.1.toNat) (x1 + 1)) else (none)) else (none)) else (none)) else (some x1))) else (some x1)
def frame_Count.f (k : Nat) (l0 : List Int) : Option Int := frame_Count.l0 k l0 0
theorem frame_Count.mono_l : ∀ k, (∀ y0 y1, LeO (frame_Count.l0 k y0 y1) (frame_Count.l0 (k + 1) y0 y1))
  | 0 => fun _ _ r h => by simp [frame_Count.l0] at h
  | k + 1 => by
    have ih0 := frame_Count.mono_l k
    intro y0 y1
    unfold frame_Count.l0
    refine LeO.ite (LeO.bind (frame_Get.mono _ _) (fun _ => LeO.ite (LeO.ite (LeO.ite (LeO.ite (ih0 _ _) (LeO.none _)) (LeO.none _)) (LeO.none _)) (LeO.refl _))) (LeO.refl _)
theorem frame_Count.mono : ∀ a0 k, LeO (frame_Count.f k a0) (frame_Count.f (k + 1) a0) := fun a0 k => frame_Count.mono_l k a0 0
theorem frame_Count.ge : ∀ (k : Nat) (x : List Int) (n r : Int), frame_Count.l0 k x n = some r → n ≤ r
  | 0, _, _, _, h => by cases h
  | k + 1, x, n, r, h => by
    simp only [frame_Count.l0] at h
    by_cases h0 : 0 < (x.length : Int)
    · rw [if_pos h0] at h
      obtain ⟨t, _, h⟩ := Option.bind_eq_some_iff.mp h
      by_cases h1 : t.2.2 = 0
      · rw [if_pos h1] at h
        by_cases h2 : 0 ≤ t.2.1
        · rw [if_pos h2] at h
          by_cases h3 : t.2.1 ≤ (x.length : Int)
          · rw [if_pos h3] at h
            by_cases h4 : n < 100000000000000
            · rw [if_pos h4] at h
              have := frame_Count.ge k _ _ _ h
              omega
            · rw [if_neg h4] at h; cases h
          · rw [if_neg h3] at h; cases h
        · rw [if_neg h2] at h; cases h
      · rw [if_neg h1] at h; injection h with h; omega
    · rw [if_neg h0] at h; injection h with h; omega
section
open Go.Shelf
attribute [local go_sem] Oper.semAt_some
/-! ### what a loop over an iterator wants, whatever the program -/
/-- The blocks from lo on and below hi lie as they lay. -/
def KeepIn (lo hi : Nat) (W W' : World) : Prop := W.heap.size ≤ W'.heap.size ∧ ∀ b, lo ≤ b → b < hi → W'.heap[b]? = W.heap[b]?
theorem KeepIn.refl (lo hi : Nat) (W : World) : KeepIn lo hi W W := ⟨Nat.le_refl _, fun _ _ _ => rfl⟩
theorem KeepIn.trans {lo hi : Nat} {A B C : World} (h : KeepIn lo hi A B) (k : KeepIn lo hi B C) : KeepIn lo hi A C := ⟨Nat.le_trans h.1 k.1, fun b h1 h2 => (k.2 b h1 h2).trans (h.2 b h1 h2)⟩
theorem KeepIn.cell {lo hi : Nat} {W W' : World} (h : KeepIn lo hi W W') {p : Addr} (h1 : lo ≤ p.block) (h2 : p.block < hi) : W'.cell? p = W.cell? p := World.cell?_of_block (w := W) (h.2 p.block h1 h2)
theorem KeepIn.setCell {lo hi : Nat} {W : World} {p : Addr} (h : p.block < lo ∨ hi ≤ p.block) (v : Value) : KeepIn lo hi W (W.setCell p v) := ⟨by simp [World.setCell], fun b h1 h2 => Below.heap_setCell _ _ _ _ (by omega)⟩
theorem KeepIn.below {lo hi B : Nat} {W W' : World} (h : Below B W W') (hh : hi ≤ B) : KeepIn lo hi W W' := ⟨h.size, fun b _ h2 => h.block b (by omega)⟩
theorem KeepIn.put {lo hi : Nat} (W : World) (l : Nat) (o o' : Obj) (hl : hi ≤ l) (h : W.heap[l]? = some o) : KeepIn lo hi W (W.putObj l o') :=
  ⟨(Below.refl 0 W).grown (grownBy_putObj' W l o') (Nat.zero_le _) (fun _ _ => Nat.zero_le _) |>.size, fun b _ h2 => (grownBy_putObj' W l o').block b (by have := (Array.getElem?_eq_some_iff.1 h).1; omega) (fun e => by cases e; omega)⟩
theorem grownBy_drewN (W : World) (n : Nat) (row : Option Nat) : W.grownBy (W.drewN n) row := ⟨rfl, rfl, rfl, Nat.le_refl _, fun _ _ _ => rfl⟩
theorem abides_drewN {β : Type} {B : Nat} {J : β → World → Prop} (hJ : AbidesFrom B J) {s : β} {W : World} (h : J s W) (n : Nat) : J s (W.drewN n) := hJ s W _ none h (grownBy_drewN W n none) (fun _ e => by cases e)
theorem abides_below {β : Type} {B : Nat} {J : β → World → Prop} (hJ : AbidesFrom B J) {s : β} {W W' : World} (h : J s W) (hb : Below W.heap.size W W') : J s W' :=
  hJ s W W' none h ⟨hb.os, hb.tape, hb.output, hb.size, fun k hk _ => hb.block k hk⟩ (fun _ e => by cases e)

/-! ### what a round must leave as it lay: the blocks of S -/
def KeepS (S : Nat → Prop) (W W' : World) : Prop := W.heap.size ≤ W'.heap.size ∧ ∀ b, S b → W'.heap[b]? = W.heap[b]?
theorem KeepS.refl (S : Nat → Prop) (W : World) : KeepS S W W := ⟨Nat.le_refl _, fun _ _ => rfl⟩
theorem KeepS.trans {S : Nat → Prop} {A B C : World} (h : KeepS S A B) (k : KeepS S B C) : KeepS S A C := ⟨Nat.le_trans h.1 k.1, fun b h1 => (k.2 b h1).trans (h.2 b h1)⟩
theorem KeepS.cell {S : Nat → Prop} {W W' : World} (h : KeepS S W W') {p : Addr} (h1 : S p.block) : W'.cell? p = W.cell? p := World.cell?_of_block (w := W) (h.2 p.block h1)
theorem KeepS.setCell {S : Nat → Prop} {W : World} {p : Addr} (h : ¬ S p.block) (v : Value) : KeepS S W (W.setCell p v) := ⟨by simp [World.setCell], fun b h1 => Below.heap_setCell _ _ _ _ (fun e => h (e ▸ h1))⟩
theorem KeepS.below {S : Nat → Prop} {B : Nat} {W W' : World} (h : Below B W W') (hS : ∀ b, S b → b < B) : KeepS S W W' := ⟨h.size, fun b h2 => h.block b (hS b h2)⟩
theorem KeepS.put {S : Nat → Prop} (W : World) (l : Nat) (o o' : Obj) (hl : ¬ S l) (h : W.heap[l]? = some o) : KeepS S W (W.putObj l o') :=
  ⟨(Below.refl 0 W).grown (grownBy_putObj' W l o') (Nat.zero_le _) (fun _ _ => Nat.zero_le _) |>.size, fun b h2 => by
    by_cases hlt : b < W.heap.size
    · exact (grownBy_putObj' W l o').block b hlt (fun e => by cases e; exact hl h2)
    · have hl' := (Array.getElem?_eq_some_iff.1 h).1
      have hs : (W.putObj l o').heap.size = W.heap.size := by simp [World.putObj]
      rw [Array.getElem?_eq_none (by omega), Array.getElem?_eq_none (by omega)]⟩
theorem KeepS.grown {S : Nat → Prop} {W0 X Y : World} {row : Option Nat} (h : KeepS S W0 X) (hS : ∀ b, S b → b < W0.heap.size) (hg : X.grownBy Y row) (hr : ∀ r, row = some r → ¬ S r) : KeepS S W0 Y :=
  ⟨Nat.le_trans h.1 hg.size, fun b hb => (hg.block b (Nat.lt_of_lt_of_le (hS b hb) h.1) (fun e => hr b e.symm hb)).trans (h.2 b hb)⟩
theorem KeepS.boxed {S : Nat → Prop} {W W' : World} {B : Nat} {t : TypeId} {v : Value} (h : KeepS S W W') (hB : S B) (hb : Boxed W B t v) : Boxed W' B t v := (h.2 B hB).trans hb
theorem Boxed.below {W W' : World} {B : Nat} {t : TypeId} {v : Value} (h : Boxed W B t v) (hb : Below W.heap.size W W') : Boxed W' B t v := (hb.block B h.lt).trans h
theorem keepsOthers_below {W W' : World} (h : Below W.heap.size W W') : KeepsOthers W W' := KeepsOthers.of_grownBy (row := none) ⟨h.os, h.tape, h.output, h.size, fun k hk _ => h.block k hk⟩ (fun _ _ e => by cases e)
/-- A range over a function that ends, or is broken off, goes on in one place. -/
theorem wpIn_join {F : Fence} {n : Nat} {P : Program} {c : Code} {Q : Exit → Act → World → Prop} {a : Act} {w : World} (id : Nat) (Cond : Nat → World → Prop)
    (h1 : c.wpIn F n P (fun e a' W => (e = .normal ∨ e = .exit id) ∧ ∃ D, a' = { a with defers := { target := .collected D, args := #[] } :: a.defers } ∧ Cond D W) a w)
    (h2 : ∀ D W, Cond D W → Q .normal { a with defers := { target := .collected D, args := #[] } :: a.defers } W) (h3 : ∀ a' W, Q .normal a' W → Q (.exit id) a' W) : c.wpIn F n P Q a w :=
  wpIn_mono h1 (by
    rintro e a' W ⟨he, D, rfl, hc⟩
    rcases he with rfl | rfl
    · exact h2 D W hc
    · exact h3 _ _ (h2 D W hc))
theorem snoc_prefix {α : Type} {pre T : List α} (x : α) (hp : pre <+: T) : (pre ++ [x] <+: T) ↔ T[pre.length]? = some x := by
  obtain ⟨t, rfl⟩ := hp
  rw [List.prefix_append_right_inj, List.getElem?_append_right (Nat.le_refl _), Nat.sub_self]
  cases t with
  | nil => simp
  | cons y ys => simp [List.cons_prefix_cons, eq_comm]

theorem roundIn_wide' {m m' : Nat} {P : Program} {l : Nat} {f : FuncId} {tmps : Array Value} {assign body : Code} {w : World} {R : Ending → World → Prop} (h : RoundIn Fence.wide m P l f tmps assign body w R) : RoundIn Fence.wide m' P l f tmps assign body w R :=
  ⟨h.1, fun c cs _ => h.2 c cs (fun d hd => by cases hd)⟩
set_option maxRecDepth 100000 in
set_option maxHeartbeats 2000000 in
theorem frame_walk_told (m n : Nat) (hn : 1 ≤ n) (S : Nat → Prop) (A : Option Addr) (c : Nat) (l : List Int) (k : Nat) (r : Int) (lp : Nat) (J Jx : List Value → World → Prop) (W : World) (hJ : AbidesFrom W.heap.size J) (hS : ∀ b, S b → b < W.heap.size)
    (hf : ∀ V, KeepS S W V → Kd.C (Kd.int .u8) V A l.length l) (hc : l.length ≤ c) (h : frame_Count.l0 k l 0 = some r)
    (hY : ∀ pre x W1, J pre W1 → pre.length < 200000000000000 → YieldAt Fence.wide m Try.prog lp #[x] W1 fun e W' => (e = .returned (.bool true) ∧ J (pre ++ [x]) W' ∧ KeepS S W1 W') ∨ (e = .returned (.bool false) ∧ Jx (pre ++ [x]) W'))
    (h0 : J [] W) : CallsIn Fence.wide n Try.prog 26 #[.slice A l.length c, .func (.yield lp) #[] #[]] W fun e W' => (∃ v, e = .returned v) ∧ ((∃ xs : List Value, (xs.length : Int) = r ∧ J xs W') ∨ (∃ pre : List Value, (pre.length : Int) ≤ r ∧ Jx pre W')) := by
  have Hf := Lib.hid hf
  have H0 := Lib.hid h
  clear hf h
  refine callsIn_of_wp Try.func26 rfl trivial ?_ rfl
  simp only [Try.ntmps26, List.size_toArray, List.length_cons, List.length_nil, Nat.reduceAdd, Nat.reduceSub, Array.replicate_succ, Array.replicate_zero, List.push_toArray, List.append_toArray, List.nil_append, List.cons_append]
  gi_wp2
  gi_loopg [0] k (fun kq v0 wr => ∃ (A' : Option Addr) (c' : Nat) (x : List Int) (j : Nat), v0 = .slice A' x.length c' ∧ x.length ≤ c' ∧ Hid (∀ V, KeepS S W V → Kd.C (Kd.int .u8) V A' x.length x) ∧ Hid (frame_Count.l0 kq x j = some r) ∧ (∃ pre : List Value, Hid (pre.length = j) ∧ J pre wr) ∧ KeepS S W wr)
  case atStart => exact ⟨A, c, l, 0, rfl, hc, Hf, H0, ⟨[], Lib.hid rfl, h0⟩, KeepS.refl _ _⟩
  case round =>
    obtain ⟨A', c', x, j, rfl, hc', HC, HL, ⟨pre, Hpre, hJs⟩, hkp⟩ := hrel
    cases gk with
    | zero => exact absurd HL.out (by simp [frame_Count.l0])
    | succ k1 =>
      have h := HL.out
      clear HL
      simp only [frame_Count.l0] at h
      by_cases h0 : 0 < (x.length : Int)
      · rw [if_pos h0] at h
        obtain ⟨⟨row, m1, e1⟩, hg, h⟩ := Option.bind_eq_some_iff.mp h
        have hb0 : decide (0 < (x.length : Int)) = true := decide_eq_true h0
        have hb0' : decide (0 < x.length) = true := decide_eq_true (by omega)
        have Hg := Lib.hid hg
        clear hg
        dsimp only at h
        by_cases h1 : e1 = 0
        · rw [if_pos h1] at h
          by_cases h2 : 0 ≤ m1
          · rw [if_pos h2] at h
            by_cases h3 : m1 ≤ (x.length : Int)
            · rw [if_pos h3] at h
              by_cases h4 : (j : Int) < 100000000000000
              · rw [if_pos h4] at h
                subst h1
                obtain ⟨i0, hi0, _, hsz0, _⟩ := info_parts info5
                obtain ⟨A9, hcut9, hA9, hC9⟩ := print_drop_of (P := Try.prog) (Value.int .u8) 0 22 5 .i64 Try.underlying22 hi0 hsz0 A' c' x m1 h2 h3 hc'
                have HC9 := Lib.hid (show ∀ V, KeepS S W V → Kd.C (Kd.int .u8) V A9 (x.drop m1.toNat).length (x.drop m1.toNat) from fun V hV => Kd.C_of_reads (h1 := fun _ => rfl) (hA9 _ (Kd.reads_of_C (HC.out V hV))))
                have hle9 : (x.drop m1.toNat).length ≤ c' - m1.toNat := hC9
                clear hA9 hC9 hi0 hsz0
                have HL := Lib.hid h
                have hge := frame_Count.ge _ _ _ _ h
                clear h
                have Hle9 := Lib.hid hle9
                have Hge := Lib.hid hge
                have H4 := Lib.hid h4
                have H23 := Lib.hid (And.intro h2 h3)
                clear hle9 hge h4 h2 h3
                gi_wp2_with (refine ⟨trivial, ?_⟩; gi_at_call 10; refine (callsIn_wide.2 (frame_Get.calls k1 A' c' x row m1 0 _ (HC.out wr hkp) hc' Hg.out)).mono ?_; rintro e w1 ⟨v0, rfl, hR, hb1⟩)
                have hJ1 : J pre w1 := abides_below hJ hJs hb1
                have hk1 : KeepS S wr w1 := KeepS.below hb1 (fun b hb => Nat.lt_of_lt_of_le (hS b hb) hkp.1)
                obtain ⟨fn, tmps, assign, body, hy, hR2⟩ := hY pre v0 w1 hJ1 (by rw [Hpre.out]; have := H4.out; omega)
                rw [hy, Oper.uponIn_round]
                refine ⟨(fun h => by cases h), (roundIn_wide' hR2).mono ?_⟩
                rintro e W3 (⟨rfl, hJ3, hk3⟩ | ⟨rfl, hJx3⟩)
                · gi_wp2
                  gi_roundg k1
                  case measure => omega
                  case rel => exact ⟨A9, c' - m1.toNat, x.drop m1.toNat, j + 1, by simp, Hle9.out, HC9, HL, ⟨pre ++ [v0], Lib.hid (by rw [List.length_append, Hpre.out]; rfl), hJ3⟩, (hkp.trans hk1).trans hk3⟩
                · gi_wp2
                  refine bodyPost_ret (v := .int .i64 0) (by simp [results, Try.results26, go_sem]) rfl ?_
                  exact ⟨⟨_, rfl⟩, .inr ⟨pre ++ [v0], by rw [List.length_append, Hpre.out]; have := Hge.out; simpa using this, hJx3⟩⟩
              · rw [if_neg h4] at h; cases h
            · rw [if_neg h3] at h; cases h
          · rw [if_neg h2] at h; cases h
        · rw [if_neg h1] at h
          injection h with h
          have hb1 : (e1 != 0) = true := by simpa using h1
          have Hx := Lib.hid (show (pre.length : Int) = r by rw [Hpre.out]; exact h)
          clear h h1
          gi_wp2_with (refine ⟨trivial, ?_⟩; gi_at_call 10; refine (callsIn_wide.2 (frame_Get.calls k1 A' c' x row m1 e1 _ (HC.out wr hkp) hc' Hg.out)).mono ?_; rintro e w1 ⟨v0, rfl, hR, hw1⟩)
          refine bodyPost_ret (v := .int .i64 e1) (by simp [results, Try.results26, go_sem]) rfl ?_
          exact ⟨⟨_, rfl⟩, .inl ⟨pre, Hx.out, abides_below hJ hJs hw1⟩⟩
      · rw [if_neg h0] at h
        injection h with h
        have hb0 : decide (0 < (x.length : Int)) = false := decide_eq_false h0
        have hb0' : decide (0 < x.length) = false := decide_eq_false (by omega)
        have Hx := Lib.hid (show (pre.length : Int) = r by rw [Hpre.out]; exact h)
        clear h
        gi_wp2
        refine bodyPost_ret (v := .int .i64 0) (by simp [results, Try.results26, go_sem]) rfl ?_
        exact ⟨⟨_, rfl⟩, .inl ⟨pre, Hx.out, hJs⟩⟩
theorem C_heap_u8 {w w1 : World} {A : Option Addr} {n : Nat} {xs : List Int} (hb : ∀ k, k < w.heap.size → w1.heap[k]? = w.heap[k]?) (h : Kd.C (Kd.int .u8) w A n xs) : Kd.C (Kd.int .u8) w1 A n xs := Kd.Heap.C (Kd.heap_int _) hb h
theorem frame_All1_stops (n : Nat) (hn : 2 ≤ n) (S : Nat → Prop) (B : Nat) (A : Option Addr) (c : Nat) (l : List Int) (k : Nat) (r : Int) (w : World) (hB : S B) (hS : ∀ b, S b → b < w.heap.size)
    (c1 : w.cell? ⟨B, 0, none⟩ = some (.slice A l.length c)) (hc : l.length ≤ c) (hf : ∀ V, KeepS S w V → Kd.C (Kd.int .u8) V A l.length l) (h : frame_Count.l0 k l 0 = some r) :
    SeqStopsK Fence.wide n Try.prog 28 #[.pointer (some ⟨B, 0, none⟩)] (fun x : Value => #[x]) (KeepS S) (fun xs => (xs.length : Int) = r) (fun xs => (xs.length : Int) ≤ r) 200000000000000 w := fun lp J Jx W hW hJ hJx hY h0 => by
  have hkw : KeepS S w W := KeepS.below hW hS
  have Hc1 := Lib.hid ((hkw.cell (p := ⟨B, 0, none⟩) hB).trans c1)
  have HSw := Lib.hid (show ∀ b, S b → b < W.heap.size from fun b hb => Nat.lt_of_lt_of_le (hS b hb) hW.size)
  have Hf := Lib.hid (show ∀ V, KeepS S W V → Kd.C (Kd.int .u8) V A l.length l from fun V hV => hf V (hkw.trans hV))
  have H0 := Lib.hid h
  clear hf h c1 hJx hW hkw
  refine callsIn_of_wp Try.func28 rfl trivial ?_ rfl
  simp only [Try.ntmps28, List.size_toArray, List.length_cons, List.length_nil, Nat.reduceAdd, Nat.reduceSub, Array.replicate_succ, Array.replicate_zero, List.push_toArray, List.append_toArray, List.nil_append, List.cons_append]
  have c2 := Hc1.out
  have hn1 : 1 ≤ n := by omega
  gi_wp2_with (refine ⟨trivial, ?_⟩; gi_at_call 26; refine (frame_walk_told (n - 1) _ (by omega) S A c l k r lp J Jx W hJ HSw.out Hf.out hc H0.out hY h0).mono ?_; rintro e w1 ⟨⟨v, rfl⟩, hq⟩)
  refine bodyPost_end (results_none rfl _ _ _) rfl ?_
  exact ⟨⟨_, rfl⟩, hq⟩
theorem frame_All_maker (A : Option Addr) (n c : Nat) (w : World) : Calls Try.prog 19 #[.slice A n c] w fun e w' => e = .returned (.func (.func 28) #[] #[.pointer (some ⟨w.heap.size, 0, none⟩)]) ∧ w' = w.alloc (.cells #[.slice A n c] 22) := by
  go_enter Try.func19, Try.ntmps19
  go_wp2
  go_ret
  exact ⟨rfl, rfl⟩
set_option maxRecDepth 100000 in
set_option maxHeartbeats 2000000 in
theorem frame_Count.calls (k : Nat) (A0 : Option Addr) (c0 : Nat) (l0 : List Int) (r : Int) (w : World) (hr0 : Kd.C (Kd.int .u8) w A0 l0.length l0) (hc0 : l0.length ≤ c0) (h : frame_Count.f k l0 = some r) :
    Calls Try.prog 13 #[.slice A0 l0.length c0] w fun e w' => e = .returned (.int .i64 r) ∧ Below w.heap.size w w' := by
  have Hr0 := Lib.hid hr0
  have H0 := Lib.hid (show frame_Count.l0 k l0 0 = some r from h)
  clear hr0 h
  refine (callsIn_wide (n := 8)).1 ?_
  refine callsIn_of_wp_marks Try.func13 rfl trivial (wpIn_wide.2 ?_) rfl
  simp only [Try.ntmps13, List.size_toArray, List.length_cons, List.length_nil, Nat.reduceAdd, Nat.reduceSub, Array.replicate_succ, Array.replicate_zero, List.push_toArray, List.append_toArray, List.nil_append, List.cons_append]
  go_wp2_with (go_at_call 19; refine (frame_All_maker A0 l0.length c0 _).mono ?_; rintro e w3 ⟨rfl, rfl⟩)
  obtain ⟨W0, hW0⟩ : ∃ W0, (w.alloc (.cells #[.int .i64 0] 3)).alloc (.cells #[.slice A0 l0.length c0] 22) = W0 := ⟨_, rfl⟩
  rw [hW0]
  have hs2 : W0.heap.size = w.heap.size + 2 := by rw [← hW0]; simp
  have hbw : Below w.heap.size w W0 := by rw [← hW0]; exact ((Below.refl _ w).alloc (Nat.le_refl _) _).alloc (by simp) _
  have B3 : Boxed W0 w.heap.size 3 (.int .i64 0) := by rw [← hW0]; exact (Boxed.new w 3 (.int .i64 0)).alloc _
  have B22 : Boxed W0 (w.heap.size + 1) 22 (.slice A0 l0.length c0) := by
    rw [← hW0]; have := Boxed.new (w.alloc (.cells #[.int .i64 0] 3)) 22 (.slice A0 l0.length c0); rw [World.size_alloc] at this; exact this
  obtain ⟨S, hS⟩ : ∃ S : Nat → Prop, S = fun b => b ≠ w.heap.size ∧ b < W0.heap.size := ⟨_, rfl⟩
  have hSlt : ∀ b, S b → b < W0.heap.size := fun b hb => by rw [hS] at hb; exact hb.2
  have hSn : ¬ S w.heap.size := fun hb => by rw [hS] at hb; exact hb.1 rfl
  have hSy : ∀ b, b < W0.heap.size → b ≠ w.heap.size → S b := fun b h1 h2 => by rw [hS]; exact ⟨h2, h1⟩
  clear hS hW0
  have hC0 : ∀ V, KeepS S W0 V → Kd.C (Kd.int .u8) V A0 l0.length l0 := fun V hV => C_heap_u8 (fun k hk => (hV.2 k (hSy k (by omega) (by omega))).trans (hbw.block k hk)) Hr0.out
  have seq := frame_All1_stops 7 (by omega) S (w.heap.size + 1) A0 c0 l0 k r W0 (hSy _ (by omega) (by omega)) hSlt B22.cell hc0 hC0 H0.out
  clear hC0
  refine (wpIn_wide (n := 8)).1 ?_
  refine wpIn_rangeFunc_ownF rfl (by omega) (gf := 28) (lb := #[.pointer (some ⟨w.heap.size + 1, 0, none⟩)]) rfl trivial (enters_of Try.func28 (by kernel_rfl) rfl)
    seq KeepS.trans (fun W l o o' hl h _ _ => KeepS.put W l o o' (fun hb => by have := hSlt l hb; omega) h) (Below.refl _ _) (fun _ => rfl)
    (fun pre V => KeepS S W0 V ∧ Boxed V w.heap.size 3 (.int .i64 pre.length) ∧ Below w.heap.size w V)
    (fun _ _ _ => False)
    ?hI ?hIx ?h0 ?a1 ?assign ?body ?done ?stop
  case assign =>
    intro l x W K hK
    gi_wp2
    exact hK
  case hI =>
    rintro s X Y row ⟨h2, h3, h4⟩ hg hr
    exact ⟨h2.grown hSlt hg (fun r e hb => by have := (hr r e).1; have := hSlt r hb; omega), boxed_own _ _ (fun _ : Unit => _) () X Y row h3 hg (fun r e => (hr r e).2), h4.grown hg (Nat.le_trans hbw.size h2.1) (fun k e => by have := (hr k e).1; omega)⟩
  case hIx => exact fun cc s X Y row h hg hr => h
  case h0 => exact ⟨KeepS.refl _ _, B3, hbw⟩
  case body =>
    rintro l pre x V ⟨hk, b9, hbl⟩ hlt
    have Hlt := Lib.hid hlt
    have Hk := Lib.hid hk
    have HSn := Lib.hid hSn
    clear hk hSn hSy hSlt seq B3 B22 hlt
    obtain ⟨j, hj⟩ : ∃ j, pre.length = j := ⟨_, rfl⟩
    rw [hj] at b9 Hlt
    have Hj := Lib.hid hj
    have hjl := Hlt.out
    clear hj
    have c9 := b9.cell
    have f9 := b9.frozen
    gi_wp2
    refine ⟨KeepsOthers.setCell _ _ _, KeepS.setCell HSn.out _, Hk.out.trans (KeepS.setCell HSn.out _), ?_, hbl.setCell (p := ⟨w.heap.size, 0, none⟩) (by simp) _⟩
    rw [List.length_append, Hj.out]; exact b9.set _
  case done =>
    rintro D xs V hD hlen ⟨hk, b9, hbl3⟩ hK2
    rw [hlen] at b9
    have c9 := b9.cell
    clear hk hlen seq
    go_wp2
    refine ⟨by simp, .inl ⟨_, _, rfl, run_takeDeferred hK2, ?_⟩⟩
    refine ⟨.int .i64 r, ?_, rfl, hbl3.trans (belowK_b (w := w) (Nat.le_refl _) _ D _ _ (by omega) hK2 rfl rfl)⟩
    simp [results, Try.f13, go_sem]
  case stop => exact fun D jmp pre V hD hS hX hK2 => hX.elim
end

/-! ### embrasurelaw02_awake: function 8 -/
def embrasurelaw02_awake.f (k : Nat) : Option Bool := if frame_Put.f k [97, 98] = some ([2, 97, 98], 0) ∧ frame_Get.f k [2, 97, 98] = some ([97, 98], 3, 0) ∧ frame_Get.f k [] = some ([], 0, 2) ∧ frame_Count.f k [2, 97, 98] = some 1 then some true else none
theorem embrasurelaw02_awake.mono : ∀ k, LeO (embrasurelaw02_awake.f k) (embrasurelaw02_awake.f (k + 1)) := fun k r h => by
  unfold embrasurelaw02_awake.f at h ⊢
  by_cases hc : frame_Put.f k [97, 98] = some ([2, 97, 98], 0) ∧ frame_Get.f k [2, 97, 98] = some ([97, 98], 3, 0) ∧ frame_Get.f k [] = some ([], 0, 2) ∧ frame_Count.f k [2, 97, 98] = some 1
  · rw [if_pos hc] at h
    rw [if_pos ⟨frame_Put.mono _ k _ hc.1, frame_Get.mono _ k _ hc.2.1, frame_Get.mono _ k _ hc.2.2.1, frame_Count.mono _ k _ hc.2.2.2⟩]
    exact h
  · rw [if_neg hc] at h; cases h
set_option maxRecDepth 100000 in
set_option maxHeartbeats 2000000 in
theorem embrasurelaw02_awake.calls (k : Nat)  (r : Bool) (w : World) (h : embrasurelaw02_awake.f k  = some r) :
    Calls Try.prog 8 #[] w fun e w' => e = .returned (.bool r) ∧ Below w.heap.size w w' := by
  unfold embrasurelaw02_awake.f at h
  by_cases hc : frame_Put.f k [97, 98] = some ([2, 97, 98], 0) ∧ frame_Get.f k [2, 97, 98] = some ([97, 98], 3, 0) ∧ frame_Get.f k [] = some ([], 0, 2) ∧ frame_Count.f k [2, 97, 98] = some 1
  · rw [if_pos hc] at h
    injection h with h
    subst h
    obtain ⟨h1, h2, h3, h4⟩ := hc
    have H1 := Lib.hid h1
    have H2 := Lib.hid h2
    have H3 := Lib.hid h3
    have H4 := Lib.hid h4
    clear h1 h2 h3 h4
    have qc := Lib.run_convert_bytes_const w 22 5 #[.int .u8 97, .int .u8 98] 2 2 Try.underlying22 Try.underlying5
    have HC := Lib.hid (show Kd.C (Kd.int .u8) (w.alloc (.cells #[.int .u8 97, .int .u8 98] 5 (2, 3))) (some ⟨w.heap.size, 0, none⟩) 2 [97, 98] from Kd.C_of_reads (d := (0 : Int)) (h1 := fun _ => rfl) ⟨rfl, by decide, fun _ => ⟨_, rfl, fun j hj => by
      rw [Addr.add_lit, World.cell?_alloc_mark]
      match j, hj with
      | 0, _ => rfl
      | 1, _ => rfl⟩⟩)
    have HN := Lib.hid (fun V : World => Kd.C_nil (Kd.int .u8) V)
    go_enter Try.func8, Try.ntmps8
    go_upto_region 2 with (go_at_call 9; refine (frame_Put.calls k (some ⟨w.heap.size, 0, none⟩) 2 [97, 98] [2, 97, 98] 0 _ HC.out (by decide) H1.out).mono ?_; rintro e w1 ⟨v1, rfl, hR1, hb1⟩; obtain ⟨A1, c1, hv1, hc1, hC1⟩ := Kd.R_reads hR1; subst hv1; have HC1 := Lib.hid hC1; clear hC1 hR1)
    go_upto_region 3 with (go_at_call 10; refine (frame_Get.calls k A1 c1 [2, 97, 98] [97, 98] 3 0 _ HC1.out hc1 H2.out).mono ?_; rintro e w2 ⟨v2, rfl, hR2, hb2⟩; obtain ⟨A2, c2, hv2, hc2, hC2⟩ := Kd.R_reads hR2; subst hv2; have HC2 := Lib.hid hC2; clear hC2 hR2)
    go_upto_region 4 with (go_at_call 10; refine (frame_Get.calls k none 0 [] [] 0 2 _ (HN.out _) (by decide) H3.out).mono ?_; rintro e w3 ⟨v3, rfl, hR3, hb3⟩; clear hR3)
    have hC3 := Kd.C_below HC1.out (hb2.trans (hb3.mono hb2.size))
    have HC3 := Lib.hid hC3
    obtain ⟨ad1, hA1, hx1⟩ := Kd.at_int hC3 0 (by decide) (by decide)
    subst hA1
    have qs := Kd.C_string (src := 22) (dst := 9) (e := 5) (c := c2) Try.underlying22 Try.underlying5 Try.underlying9 (Kd.C_below HC2.out hb3)
    clear hC3
    have e0 : rd [2, 97, 98] 0 = 2 := rfl
    rw [e0] at hx1
    have hx2 : w3.cell? (ad1.add 0) = some (.int .u8 2) := hx1
    have e1 : strOfNums [97, 98] = (⟨#[97, 98]⟩ : ByteArray) := by rfl
    rw [e1] at qs
    have hx3 : w3.cell? ad1 = some (.int .u8 2) := by rw [show ad1.add 0 = ad1 by first | exact Addr.add_zero ad1 | (cases ad1; rename_i b o p; cases p <;> rfl) | (cases ad1; simp [Addr.add])] at hx2; exact hx2
    simp only [List.length_cons, List.length_nil, Nat.reduceAdd] at qs
    clear hx1
    have Hw := Lib.hid (show Below w.heap.size w w3 from (((Below.refl _ w).alloc (Nat.le_refl _) _).trans (hb1.mono (by simp))).trans ((hb2.mono (by have := hb1.size; simp at this; omega)).trans (hb3.mono (by have := hb1.size; have := hb2.size; simp at *; omega))))
    have hsz : w.heap.size ≤ w3.heap.size := Hw.out.size
    clear e0 e1 hb1 hb2 hb3 qc
    go_wp2_with (go_at_call 13; refine (frame_Count.calls k (some ad1) c1 [2, 97, 98] 1 _ HC3.out hc1 H4.out).mono ?_; rintro e w4 ⟨rfl, hb4⟩)
    go_ret
    exact ⟨rfl, Hw.out.trans (hb4.mono hsz)⟩
  · rw [if_neg hc] at h; cases h

/-! ### embrasureref01_Same: function 11 -/
def embrasureref01_Same.l0 : Nat → List Int → List Int → Int → Option (Bool)
  | 0, _, _, _ => none
  | k + 1, x0, x1, x5 => if x5 < (x0.length : Int) then (if 0 ≤ x5 then (if x5 < (x1.length : Int) then (if (rd x0 x5) = (rd x1 x5) then (embrasureref01_Same.l0 k x0 x1 (wrap64 (x5 + 1))) else (some false)) else (none)) else (none)) else (some true)
def embrasureref01_Same.f (k : Nat) (l0 : List Int) (l1 : List Int) : Option (Bool) := if (l0.length : Int) = (l1.length : Int) then (embrasureref01_Same.l0 k l0 l1 0) else (some false)
theorem embrasureref01_Same.mono_l : ∀ k, (∀ y0 y1 y2, LeO (embrasureref01_Same.l0 k y0 y1 y2) (embrasureref01_Same.l0 (k + 1) y0 y1 y2))
  | 0 => fun _ _ _ r h => by simp [embrasureref01_Same.l0] at h
  | k + 1 => by
    have ih0 := embrasureref01_Same.mono_l k
    · intro y0 y1 y2
      unfold embrasureref01_Same.l0
      repeat' first
      | (with_reducible exact ih0 _ _ _)
      | (with_reducible exact LeO.refl _)
      | (with_reducible exact LeO.none _)
      | (with_reducible refine LeO.ite ?_ ?_)
      | (with_reducible refine LeO.bind ?_ (fun _ => ?_))
      | exact ih0 _ _ _
      | exact LeO.none _
      | refine LeO.ite ?_ ?_
      | refine LeO.bind ?_ (fun _ => ?_)
theorem embrasureref01_Same.mono : ∀ a0 a1 k, LeO (embrasureref01_Same.f k a0 a1) (embrasureref01_Same.f (k + 1) a0 a1) := by
  intro a0 a1 k
  have ih0 := embrasureref01_Same.mono_l k
  unfold embrasureref01_Same.f
  repeat' first
      | (with_reducible exact ih0 _ _ _)
      | (with_reducible exact LeO.refl _)
      | (with_reducible exact LeO.none _)
      | (with_reducible refine LeO.ite ?_ ?_)
      | (with_reducible refine LeO.bind ?_ (fun _ => ?_))
      | exact ih0 _ _ _
      | exact LeO.none _
      | refine LeO.ite ?_ ?_
      | refine LeO.bind ?_ (fun _ => ?_)
set_option maxHeartbeats 8000000 in
set_option maxRecDepth 100000 in
theorem embrasureref01_Same.calls (k : Nat) (A0 : Option Addr) (c0 : Nat) (l0 : List Int) (A1 : Option Addr) (c1 : Nat) (l1 : List Int) (r : Bool) (w : World) (hr0 : Kd.C (Kd.int .u8) w A0 l0.length l0) (hc0 : l0.length ≤ c0) (hr1 : Kd.C (Kd.int .u8) w A1 l1.length l1) (hc1 : l1.length ≤ c1) (h : embrasureref01_Same.f k l0 l1 = some r) :
    Calls Try.prog 11 #[.slice A0 l0.length c0, .slice A1 l1.length c1] w fun e w' => e = .returned (.bool r) ∧ Drawn0 w w' := by
  have HR0 := Aside0.mk hr0
  have HC0 := Aside0.mk hc0
  clear hr0 hc0
  have HR1 := Aside0.mk hr1
  have HC1 := Aside0.mk hc1
  clear hr1 hc1
  have H : (if (l0.length : Int) = (l1.length : Int) then (embrasureref01_Same.l0 k l0 l1 0) else (some false)) = some r := h
  clear h
  by_cases c3 : (l0.length : Int) = (l1.length : Int)
  · rw [if_pos c3] at H
    have c3b0 : ((l0.length : Int) == (l1.length : Int)) = true := beq_iff_eq.mpr c3
    have c3b1 : ((l0.length : Int) != (l1.length : Int)) = false := bne_eq_false_iff_eq.mpr c3
    have c3b2 : (l0.length == l1.length) = true := by first | simpa using c3 | (simp at c3 ⊢; omega)
    clear c3
    have H' := Aside0.mk H
    clear H
    go_enter Try.func11, Try.ntmps11
    go_wp2
    repeat (go_quiet (fail); try go_wp2)
    go_loopg [5] k (fun kq v5 w' => ∃ (x5_1 : Int), v5 = .int .i64 x5_1 ∧ Aside0 (embrasureref01_Same.l0 kq l0 l1 x5_1 = some r) ∧ Aside0 (kq ≤ k) ∧ Drawn0 w w')
    case atStart => exact ⟨(0), (by first | rfl | (simp; done) | (simp [*]; done)), H', ⟨Nat.le_refl _⟩, by repeat (first | exact Drawn0.refl _ | apply Drawn0.step)⟩
    case round =>
      clear H'
      try clear c1
      try clear p2
      try clear c3
      try clear c3b0
      try clear c3b1
      try clear c3b2
      obtain ⟨x5_1, rfl, HA, HK1, ⟨m1, rfl⟩⟩ := hrel
      cases gk with
      | zero => exact absurd HA.out (by simp [embrasureref01_Same.l0])
      | succ k1 =>
        have H := HA.out
        clear HA
        simp only [embrasureref01_Same.l0] at H
        by_cases c4 : x5_1 < (l0.length : Int)
        · rw [if_pos c4] at H
          have c4b0 : decide (x5_1 < (l0.length : Int)) = true := decide_eq_true c4
          clear c4
          by_cases c5 : 0 ≤ x5_1
          · rw [if_pos c5] at H
            have c5b0 : decide (0 ≤ x5_1) = true := decide_eq_true c5
            clear c5
            by_cases c6 : x5_1 < (l1.length : Int)
            · rw [if_pos c6] at H
              have c6b0 : decide (x5_1 < (l1.length : Int)) = true := decide_eq_true c6
              clear c6
              by_cases c7 : (rd l0 x5_1) = (rd l1 x5_1)
              · rw [if_pos c7] at H
                have c7b0 : ((rd l0 x5_1) == (rd l1 x5_1)) = true := beq_iff_eq.mpr c7
                have c7b1 : ((rd l0 x5_1) != (rd l1 x5_1)) = false := bne_eq_false_iff_eq.mpr c7
                clear c7
                have H' := Aside0.mk H
                clear H
                have p128 : 0 ≤ (x5_1 : Int) := of_decide_eq_true (by first | (with_reducible assumption) | assumption)
                have q128 : x5_1 < (l0.length : Int) := of_decide_eq_true (by first | (with_reducible assumption) | assumption)
                obtain ⟨ad128, e128, hx128_0⟩ := Kd.at_int HR0.out x5_1 p128 q128
                cases e128
                replace p128 := eq_true p128
                replace q128 := eq_true q128
                have p129 : 0 ≤ (x5_1 : Int) := of_decide_eq_true (by first | (with_reducible assumption) | assumption)
                have q129 : x5_1 < (l1.length : Int) := of_decide_eq_true (by first | (with_reducible assumption) | assumption)
                obtain ⟨ad129, e129, hx129_0⟩ := Kd.at_int HR1.out x5_1 p129 q129
                cases e129
                replace p129 := eq_true p129
                replace q129 := eq_true q129
                go_wp2
                repeat (go_quiet (fail); try go_wp2)
                go_roundg k1
                case measure => have := HK1.out; omega
                case rel => exact ⟨(wrap64 (x5_1 + 1)), (by first | rfl | (simp; done) | (simp [*]; done)), H', ⟨by have := HK1.out; omega⟩, by repeat (first | exact Drawn0.refl _ | apply Drawn0.step)⟩
              · rw [if_neg c7] at H
                have c7b0 : ((rd l0 x5_1) == (rd l1 x5_1)) = false := beq_eq_false_iff_ne.mpr c7
                have c7b1 : ((rd l0 x5_1) != (rd l1 x5_1)) = true := bne_iff_ne.mpr c7
                obtain rfl := Option.some.inj H
                have p128 : 0 ≤ (x5_1 : Int) := of_decide_eq_true (by first | (with_reducible assumption) | assumption)
                have q128 : x5_1 < (l0.length : Int) := of_decide_eq_true (by first | (with_reducible assumption) | assumption)
                obtain ⟨ad128, e128, hx128_0⟩ := Kd.at_int HR0.out x5_1 p128 q128
                cases e128
                replace p128 := eq_true p128
                replace q128 := eq_true q128
                have p129 : 0 ≤ (x5_1 : Int) := of_decide_eq_true (by first | (with_reducible assumption) | assumption)
                have q129 : x5_1 < (l1.length : Int) := of_decide_eq_true (by first | (with_reducible assumption) | assumption)
                obtain ⟨ad129, e129, hx129_0⟩ := Kd.at_int HR1.out x5_1 p129 q129
                cases e129
                replace p129 := eq_true p129
                replace q129 := eq_true q129
                go_wp2
                repeat (go_quiet (fail); try go_wp2)
                go_ret
                exact ⟨by first | rfl | (simp; done) | (simp [*]; done), by repeat (first | exact Drawn0.refl _ | apply Drawn0.step)⟩
            · rw [if_neg c6] at H
              exact absurd H (by simp)
          · rw [if_neg c5] at H
            exact absurd H (by simp)
        · rw [if_neg c4] at H
          have c4b0 : decide (x5_1 < (l0.length : Int)) = false := decide_eq_false c4
          clear c4
          obtain rfl := Option.some.inj H
          go_wp2
          repeat (go_quiet (fail); try go_wp2)
          go_ret
          exact ⟨by first | rfl | (simp; done) | (simp [*]; done), by repeat (first | exact Drawn0.refl _ | apply Drawn0.step)⟩
  · rw [if_neg c3] at H
    have c3b0 : ((l0.length : Int) == (l1.length : Int)) = false := beq_eq_false_iff_ne.mpr c3
    have c3b1 : ((l0.length : Int) != (l1.length : Int)) = true := bne_iff_ne.mpr c3
    have c3b2 : (l0.length == l1.length) = false := by first | simpa using c3 | (simp at c3 ⊢; omega)
    obtain rfl := Option.some.inj H
    go_enter Try.func11, Try.ntmps11
    go_wp2
    repeat (go_quiet (fail); try go_wp2)
    go_ret
    exact ⟨by first | rfl | (simp; done) | (simp [*]; done), by repeat (first | exact Drawn0.refl _ | apply Drawn0.step)⟩

end Go.Proofs.Ytcngadkcnnkimaa.H
