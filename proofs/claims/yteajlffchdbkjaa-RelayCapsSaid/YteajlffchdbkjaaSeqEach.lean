/-
  The iterator uvar.Each: for all bytes and every loop body: the numbers, one by one, and where they begin.
-/
import Derived.RangeFuncNested
import Derived.RangeFuncBound
import Derived.RangeFuncCalls
import Derived.RangeFuncLeaves
import Derived.Shelf.Abstract
import Derived.Shelf.RegionOpen
import Derived.WalkKit
import Derived.OwnWalkIn
import Derived.TacticsInMore
import Derived.LoopNIn
import Derived.LoopIn
import Derived.Deep.QuietTactic
import Derived.BigQuiet
import Derived.Lib.Hide
import Derived.Outline
import Derived.Test.YteajlffchdbkjaaPureEach
namespace Go.Proofs.Yteajlffchdbkjaa.Uv
open Go.RowKit Go.Shelf Go.Proofs.Yteajlffchdbkjaa.H Go.Proofs.YteajlffchdbkjaaW.PrintWords Go.Proofs.YteajlffchdbkjaaW.PrintLast Go.Proofs.YteajlffchdbkjaaW.PrintMore
attribute [local go_sem] Oper.semAt_some

/-! ### what a loop over an iterator wants, whatever the program -/
/-- The blocks from lo on and below hi lie as they lay. -/
def KeepIn (lo hi : Nat) (W W' : World) : Prop := W.heap.size ≤ W'.heap.size ∧ ∀ b, lo ≤ b → b < hi → W'.heap[b]? = W.heap[b]?
theorem KeepIn.refl (lo hi : Nat) (W : World) : KeepIn lo hi W W := ⟨Nat.le_refl _, fun _ _ _ => rfl⟩
theorem KeepIn.trans {lo hi : Nat} {A B C : World} (h : KeepIn lo hi A B) (k : KeepIn lo hi B C) : KeepIn lo hi A C := ⟨Nat.le_trans h.1 k.1, fun b h1 h2 => (k.2 b h1 h2).trans (h.2 b h1 h2)⟩
theorem KeepIn.cell {lo hi : Nat} {W W' : World} (h : KeepIn lo hi W W') {p : Addr} (h1 : lo ≤ p.block) (h2 : p.block < hi) : W'.cell? p = W.cell? p := World.cell?_of_block (w := W) (h.2 p.block h1 h2)
theorem KeepIn.setCell {lo hi : Nat} {W : World} {p : Addr} (h : p.block < lo ∨ hi ≤ p.block) (v : Value) : KeepIn lo hi W (W.setCell p v) := ⟨by simp [World.setCell], fun b h1 h2 => Below.heap_setCell _ _ _ _ (by omega)⟩
theorem KeepIn.below {lo hi B : Nat} {W W' : World} (h : Below B W W') (hh : hi ≤ B) : KeepIn lo hi W W' := ⟨h.size, fun b _ h2 => h.block b (by omega)⟩
theorem KeepIn.put {lo hi : Nat} (W : World) (l : Nat) (o o' : Obj) (hl : hi ≤ l) (h : W.heap[l]? = some o) : KeepIn lo hi W (W.putObj l o') :=
  ⟨(Below.refl 0 W).grown (grownBy_putObj' W l o') (Nat.zero_le _) (fun _ _ => Nat.zero_le _) |>.size, fun b _ h2 => (grownBy_putObj' W l o').block b (by have := (Array.getElem?_eq_some_iff.1 h).1; omega) (fun e => by cases e; omega)⟩
theorem grownBy_drewN (W : World) (n : Nat) (row : Option Nat) : W.grownBy (W.drewN n) row := ⟨rfl, rfl, rfl, Nat.le_refl _, fun _ _ _ => rfl⟩
theorem abides_drewN {β : Type} {B : Nat} {J : β → World → Prop} (hJ : AbidesFrom B J) {s : β} {W : World} (h : J s W) (n : Nat) : J s (W.drewN n) := hJ s W _ none h (grownBy_drewN W n none) (fun _ e => by cases e)
theorem abides_below {β : Type} {B : Nat} {J : β → World → Prop} (hJ : AbidesFrom B J) {s : β} {W W' : World} (h : J s W) (hb : Below W.heap.size W W') : J s W' :=
  hJ s W W' none h ⟨hb.os, hb.tape, hb.output, hb.size, fun k hk _ => hb.block k hk⟩ (fun _ e => by cases e)

/-! ### what a round must leave as it lay: the blocks of S -/
def KeepS (S : Nat → Prop) (W W' : World) : Prop := W.heap.size ≤ W'.heap.size ∧ ∀ b, S b → W'.heap[b]? = W.heap[b]?
theorem KeepS.refl (S : Nat → Prop) (W : World) : KeepS S W W := ⟨Nat.le_refl _, fun _ _ => rfl⟩
theorem KeepS.trans {S : Nat → Prop} {A B C : World} (h : KeepS S A B) (k : KeepS S B C) : KeepS S A C := ⟨Nat.le_trans h.1 k.1, fun b h1 => (k.2 b h1).trans (h.2 b h1)⟩
theorem KeepS.cell {S : Nat → Prop} {W W' : World} (h : KeepS S W W') {p : Addr} (h1 : S p.block) : W'.cell? p = W.cell? p := World.cell?_of_block (w := W) (h.2 p.block h1)
theorem KeepS.setCell {S : Nat → Prop} {W : World} {p : Addr} (h : ¬ S p.block) (v : Value) : KeepS S W (W.setCell p v) := ⟨by simp [World.setCell], fun b h1 => Below.heap_setCell _ _ _ _ (fun e => h (e ▸ h1))⟩
theorem KeepS.below {S : Nat → Prop} {B : Nat} {W W' : World} (h : Below B W W') (hS : ∀ b, S b → b < B) : KeepS S W W' := ⟨h.size, fun b h2 => h.block b (hS b h2)⟩
theorem KeepS.put {S : Nat → Prop} (W : World) (l : Nat) (o o' : Obj) (hl : ¬ S l) (h : W.heap[l]? = some o) : KeepS S W (W.putObj l o') :=
  ⟨(Below.refl 0 W).grown (grownBy_putObj' W l o') (Nat.zero_le _) (fun _ _ => Nat.zero_le _) |>.size, fun b h2 => by
    by_cases hlt : b < W.heap.size
    · exact (grownBy_putObj' W l o').block b hlt (fun e => by cases e; exact hl h2)
    · have hl' := (Array.getElem?_eq_some_iff.1 h).1
      have hs : (W.putObj l o').heap.size = W.heap.size := by simp [World.putObj]
      rw [Array.getElem?_eq_none (by omega), Array.getElem?_eq_none (by omega)]⟩
theorem KeepS.grown {S : Nat → Prop} {W0 X Y : World} {row : Option Nat} (h : KeepS S W0 X) (hS : ∀ b, S b → b < W0.heap.size) (hg : X.grownBy Y row) (hr : ∀ r, row = some r → ¬ S r) : KeepS S W0 Y :=
  ⟨Nat.le_trans h.1 hg.size, fun b hb => (hg.block b (Nat.lt_of_lt_of_le (hS b hb) h.1) (fun e => hr b e.symm hb)).trans (h.2 b hb)⟩
theorem KeepS.boxed {S : Nat → Prop} {W W' : World} {B : Nat} {t : TypeId} {v : Value} (h : KeepS S W W') (hB : S B) (hb : Boxed W B t v) : Boxed W' B t v := (h.2 B hB).trans hb
theorem Boxed.below {W W' : World} {B : Nat} {t : TypeId} {v : Value} (h : Boxed W B t v) (hb : Below W.heap.size W W') : Boxed W' B t v := (hb.block B h.lt).trans h
theorem keepsOthers_below {W W' : World} (h : Below W.heap.size W W') : KeepsOthers W W' := KeepsOthers.of_grownBy (row := none) ⟨h.os, h.tape, h.output, h.size, fun k hk _ => h.block k hk⟩ (fun _ _ e => by cases e)
/-- A range over a function that ends, or is broken off, goes on in one place. -/
theorem wpIn_join {F : Fence} {n : Nat} {P : Program} {c : Code} {Q : Exit → Act → World → Prop} {a : Act} {w : World} (id : Nat) (Cond : Nat → World → Prop)
    (h1 : c.wpIn F n P (fun e a' W => (e = .normal ∨ e = .exit id) ∧ ∃ D, a' = { a with defers := { target := .collected D, args := #[] } :: a.defers } ∧ Cond D W) a w)
    (h2 : ∀ D W, Cond D W → Q .normal { a with defers := { target := .collected D, args := #[] } :: a.defers } W) (h3 : ∀ a' W, Q .normal a' W → Q (.exit id) a' W) : c.wpIn F n P Q a w :=
  wpIn_mono h1 (by
    rintro e a' W ⟨he, D, rfl, hc⟩
    rcases he with rfl | rfl
    · exact h2 D W hc
    · exact h3 _ _ (h2 D W hc))
theorem snoc_prefix {α : Type} {pre T : List α} (x : α) (hp : pre <+: T) : (pre ++ [x] <+: T) ↔ T[pre.length]? = some x := by
  obtain ⟨t, rfl⟩ := hp
  rw [List.prefix_append_right_inj, List.getElem?_append_right (Nat.le_refl _), Nat.sub_self]
  cases t with
  | nil => simp
  | cons y ys => simp [List.cons_prefix_cons, eq_comm]

theorem bcell {W w1 : World} (hb : Below W.heap.size W w1) : (∀ b o, b < W.heap.size → w1.cell? ⟨b, o, none⟩ = W.cell? ⟨b, o, none⟩) ∧ (∀ b o, b < W.heap.size → w1.frozen? ⟨b, o, none⟩ = W.frozen? ⟨b, o, none⟩) :=
  ⟨fun b o h => hb.cell (p := ⟨b, o, none⟩) h, fun b o h => hb.frozen (p := ⟨b, o, none⟩) h⟩
abbrev encsE (p : Int × Int) : Array Value := #[.int .i64 p.1, .int .u64 p.2]

set_option maxRecDepth 100000 in
set_option maxHeartbeats 2000000 in
theorem each_stops_of {β : Type} (M : Nat) (v : β → Int × Int) (mk : ∀ i a : Int, 0 ≤ i → i ≤ 140737488355328 → 0 ≤ a → a ≤ 9223372036854775807 → ∃ x : β, v x = (i, a)) (n : Nat) (hn : 1 ≤ n) (S : Nat → Prop) (B : Nat) (A : Option Addr) (c : Nat) (l : List Int) (w : World) (hB : S B) (hN : ∀ b, S b → b < w.heap.size)
    (c1 : w.cell? ⟨B, 0, none⟩ = some (.slice A l.length c)) (hc : l.length ≤ c) (hm : l.length ≤ 140737488355328) (hM : l.length ≤ M) (hl : ∀ x ∈ l, 0 ≤ x ∧ x ≤ 255) (hf : ∀ W, KeepS S w W → Kd.C (Kd.int .u8) W A l.length l) :
    SeqStopsK Fence.wide n Try.prog 74 #[.pointer (some ⟨B, 0, none⟩)] (fun x => encsE (v x)) (KeepS S) (fun xs => xs.map v = eachL l) (fun xs => ∃ r, xs.map v ++ r = eachL l) M w := fun lp J Jx W hW hJ hJx hY h0 => by
  have hkw : KeepS S w W := KeepS.below hW hN
  have hNW : ∀ b, S b → b < W.heap.size := fun b hb => Nat.lt_of_lt_of_le (hN b hb) hW.size
  have Hf := Lib.hid hf
  have Hkw := Lib.hid hkw
  have Hc1 := Lib.hid c1
  have Hl := Lib.hid hl
  have hec : (eachL l).length ≤ l.length := eachL_len l hl
  clear hf hkw c1 hW hJx hl
  refine callsIn_of_wp Try.func74 rfl trivial ?_ rfl
  simp only [Try.ntmps74, List.size_toArray, List.length_cons, List.length_nil, Nat.reduceAdd, Nat.reduceSub, Array.replicate_succ, Array.replicate_zero, List.push_toArray, List.append_toArray, List.nil_append, List.cons_append]
  gi_wp2
  gi_loopw [3] (fun v3 wr => ∃ a : Nat, v3 = .int .i64 a ∧ a ≤ l.length ∧ (∃ pre : List β, Hid (pre.map v ++ restE l a = eachL l) ∧ J pre wr) ∧ KeepS S W wr) (fun v3 _ => l.length - (intOf v3).toNat)
  case atStart => exact ⟨0, rfl, Nat.zero_le _, ⟨[], Lib.hid (by rw [restE_zero]; rfl), h0⟩, KeepS.refl _ _⟩
  case round =>
    obtain ⟨a, rfl, ha, ⟨pre, Hpre, hJs⟩, hkp⟩ := hrel
    have e1 : wr.cell? ⟨B, 0, none⟩ = some (.slice A l.length c) := ((Hkw.out.trans hkp).cell hB).trans Hc1.out
    by_cases hlt : a < l.length
    · have hb1 : decide ((a : Int) < (l.length : Int)) = true := decide_eq_true (by omega)
      obtain ⟨k, hk⟩ := (get_yes (l.drop a) (fun x hx => Hl.out x (List.mem_of_mem_drop hx))).rounds
      obtain ⟨i0, hi0, _, hsz0, _⟩ := info_parts info5
      obtain ⟨A9, hcut9, hA9, hC9⟩ := print_drop_of (P := Try.prog) (Value.int .u8) 0 36 5 .i64 Try.underlying36 hi0 hsz0 A c l (a : Int) (by omega) (by omega) hc
      have HR1 := Kd.C_of_reads (h1 := fun _ => rfl) (hA9 _ (Kd.reads_of_C (Hf.out wr (Hkw.out.trans hkp))))
      rw [Int.toNat_natCast, List.length_drop] at HR1
      have HR := Lib.hid HR1
      clear hA9 hi0 hsz0 HR1
      have hC9' : (l.drop a).length ≤ c - a := by rw [List.length_drop]; omega
      have hGt : ∀ (x m e : Int) (w1 : World) (k : Nat), Kd.C (Kd.int .u8) w1 A9 (l.length - a) (l.drop a) → uvar_Get.f k (l.drop a) = some (x, m, e) → Calls Try.prog 50 #[.slice A9 (l.length - a) (c - a)] w1 fun r w2 => r = .returned (.tuple #[.int .u64 x, .int .i64 m, .int .i64 e]) ∧ Below w1.heap.size w1 w2 := fun x m e w1 k h1 h2 => by
        have := uvar_Get.calls k A9 (c - a) (l.drop a) x m e w1 (by rw [List.length_drop]; exact h1) hC9' h2
        rwa [List.length_drop] at this
      have HGt := Lib.hid hGt
      clear hGt
      rcases hg : getI (l.drop a) with ⟨x, m, e⟩
      rw [hg] at hk
      have Hk := Lib.hid hk
      clear hk hC9
      by_cases he : e = 0
      · subst he
        have hbd := getI_k (l.drop a) (fun x hx => Hl.out x (List.mem_of_mem_drop hx)) (by rw [hg])
        rw [hg, List.length_drop] at hbd
        dsimp only at hbd
        have hst := restE_step l a Hl.out hlt (by rw [hg])
        rw [hg] at hst
        dsimp only at hst
        have Hst := Lib.hid hst
        clear hst
        obtain ⟨y, hy0⟩ := mk (a : Int) x (by omega) (by omega) hbd.2.2.2.1 hbd.2.2.2.2
        have hpl : pre.length < M := by
          have := congrArg List.length Hpre.out
          rw [List.length_append, List.length_map] at this
          have h2 := congrArg List.length Hst.out
          rw [List.length_cons] at h2
          omega
        have Hx := Lib.hid (show (pre ++ [y]).map v ++ restE l (a + m.toNat) = eachL l by rw [← Hpre.out, Hst.out, List.map_append, List.map_singleton, hy0, List.append_assoc, List.singleton_append])
        have Hy0 := Lib.hid hy0
        clear hy0 hg
        gi_wp2_with (refine ⟨trivial, ?_⟩; gi_at_call 50; refine (callsIn_wide.2 (HGt.out x m 0 _ k HR.out Hk.out)).mono ?_; rintro e w1 ⟨rfl, hb1⟩; obtain ⟨hc1, hf1⟩ := bcell hb1)
        have hJ1 : J pre w1 := abides_below hJ hJs hb1
        have hk1 : KeepS S wr w1 := KeepS.below hb1 (fun b hb => Nat.lt_of_lt_of_le (hNW b hb) hkp.1)
        obtain ⟨fn, tmps, assign, body, hy, hR⟩ := hY pre y w1 hJ1 hpl
        rw [Hy0.out] at hy
        dsimp only [encsE] at hy
        rw [hy, Oper.uponIn_round]
        refine ⟨(fun h => by cases h), hR.mono ?_⟩
        rintro r W3 (⟨rfl, hJ3, hk3⟩ | ⟨rfl, hJx3⟩)
        · gi_wp2
          go_roundw
          case rel => exact ⟨a + m.toNat, by congr 1; omega, by omega, ⟨pre ++ [y], Hx, hJ3⟩, (hkp.trans hk1).trans hk3⟩
          case measure => simp [intOf]; omega
        · gi_wp2
          refine bodyPost_ret (results_none rfl _ _ _) rfl ?_
          exact ⟨⟨_, rfl⟩, .inr ⟨pre ++ [y], ⟨_, Hx.out⟩, hJx3⟩⟩
      · have hbad := restE_bad l a (by rw [hg]; exact he)
        have Hx := Lib.hid (show pre.map v = eachL l by rw [← Hpre.out, hbad, List.append_nil])
        have heb : (e != 0) = true := by simpa using he
        clear hbad hg he
        gi_wp2_with (refine ⟨trivial, ?_⟩; gi_at_call 50; refine (callsIn_wide.2 (HGt.out x m e _ k HR.out Hk.out)).mono ?_; rintro r w1 ⟨rfl, hb1⟩; obtain ⟨hc1, hf1⟩ := bcell hb1)
        refine ⟨(fun _ h => by cases h), ?_⟩
        gi_wp2
        refine bodyPost_ret (results_none rfl _ _ _) rfl ?_
        exact ⟨⟨_, rfl⟩, .inl ⟨pre, Hx.out, abides_below hJ hJs hb1⟩⟩
    · have hb1 : decide ((a : Int) < (l.length : Int)) = false := decide_eq_false (by omega)
      have Hx := Lib.hid (show pre.map v = eachL l by rw [← Hpre.out, restE_end l a (by omega), List.append_nil])
      gi_wp2
      refine bodyPost_end (results_none rfl _ _ _) rfl ?_
      exact ⟨⟨_, rfl⟩, .inl ⟨pre, Hx.out, hJs⟩⟩

theorem each_stops (n : Nat) (hn : 1 ≤ n) (S : Nat → Prop) (B : Nat) (A : Option Addr) (c : Nat) (l : List Int) (w : World) (hB : S B) (hN : ∀ b, S b → b < w.heap.size)
    (c1 : w.cell? ⟨B, 0, none⟩ = some (.slice A l.length c)) (hc : l.length ≤ c) (hm : l.length ≤ 140737488355328) (hl : ∀ x ∈ l, 0 ≤ x ∧ x ≤ 255) (hf : ∀ W, KeepS S w W → Kd.C (Kd.int .u8) W A l.length l) :
    SeqStopsK Fence.wide n Try.prog 74 #[.pointer (some ⟨B, 0, none⟩)] encsE (KeepS S) (fun xs => xs = eachL l) (fun xs => xs <+: eachL l) 200000000000000 w := by
  have := each_stops_of 200000000000000 (fun x : Int × Int => x) (fun i a _ _ _ _ => ⟨(i, a), rfl⟩) n hn S B A c l w hB hN c1 hc hm (by omega) hl hf
  simp only [List.map_id'] at this
  exact this
theorem each_maker (A : Option Addr) (n c : Nat) (w : World) : Calls Try.prog 52 #[.slice A n c] w fun e w' => e = .returned (.func (.func 74) #[] #[.pointer (some ⟨w.heap.size, 0, none⟩)]) ∧ w' = w.alloc (.cells #[.slice A n c] 36) := by
  go_enter Try.func52, Try.ntmps52
  go_wp2
  go_ret
  exact ⟨rfl, rfl⟩

end Go.Proofs.Yteajlffchdbkjaa.Uv
