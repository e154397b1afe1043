/-
  The notary's own functions (New, Mint, Check, Count): what each answers and what it leaves, whatever entries it holds. Conditions: the entries' texts are bytes, there are at most a million.
  The notary's Check: what it answers, whatever entries the notary holds; it writes nothing. Conditions: as in the text that it imports.
  A notary, and the reference's notary beside it: what each call leaves. No condition but the texts' bounds.
  Objects in memory side by side: each has blocks of its own, no two share one. No program in sight but the model's worlds.
  Objects in memory side by side, more: one is turned and the others stay. No program in sight but the model's worlds.
  Rows of bytes: an append to a row that is full and not one's own (a constant's); numbers in few bytes, and frames, as their functions give them; the row of bytes that is like another. Conditions: bytes are bytes, numbers of their kinds.
  A voucher's text (vouch.text, and the reference's Text), the numbers in few bytes and frames as contracts; bytes.HasPrefix, bytes.CutPrefix. Conditions: numbers are whole, from 0 on, of 63 bits; bytes are bytes.
  A voucher in plain Lean: its numbers, its text, its bytes, and which bytes are one; whether it may be; bytes.Equal, bytes.HasPrefix and bytes.CutPrefix by the mark. Conditions: bytes are bytes.
  vouch.Read: whatever the bytes: the voucher that they are, or refused. Condition: bytes are bytes.
  vouch.Read, on: the numbers behind the mark are gathered, and looked at. Condition: bytes are bytes.
  vouch.Make and vouch.Check: at one notary, whatever it holds. Condition: bytes are bytes; some bounds on lengths.
-/
import Derived.Test.YteajlffchdbkjaaProg
import Derived.Below
import Derived.Deep.Draws
import Derived.Deep.AppendLies
import Derived.Maps.AppendAt
import Derived.Maps.OwnSet
import Derived.DeepKeys4
import Derived.OwnWalk
import Derived.Laws.BytesArg
import Derived.Laws.OwnMore
import Derived.Tactics
import Derived.Lib.ConvBytes
import Derived.Laws.Slices
import Derived.WalkKit
import Derived.KernelRfl
import Derived.RowKit3
import Derived.Deep.LoopGhost
import Derived.Deep.QuietTactic
import Derived.BigQuiet
import Derived.BigRegion
import Derived.WideLaws
import Derived.Deep.RegionLaw
import Derived.Deep.Cut
import Derived.Deep.DeepCutAuto
import Derived.RowKit
import Derived.Lib.Hide
import Derived.Test.YteajlffchdbkjaaWWords
import Derived.Test.YteajlffchdbkjaaWLast
import Derived.Test.YteajlffchdbkjaaWMore
import Derived.Test.YteajlffchdbkjaaWEqStruct
import Derived.Lib.Bytes
import Derived.Lib.SlBytesConst
import Derived.Test.YteajlffchdbkjaaPureFc
import Derived.Laws.Append
import Derived.Laws.AppendOwn
import Derived.Deep.CutRange
import Derived.Deep.CutBlock
import Derived.StillTailTactics
import Derived.IntWalk
import Derived.Test.YteajlffchdbkjaaWFoot
import Derived.Test.YteajlffchdbkjaaHx0
import Derived.Test.YteajlffchdbkjaaHx1
import Derived.Test.YteajlffchdbkjaaHx2
import Derived.Test.YteajlffchdbkjaaPureEach
import Derived.Test.YteajlffchdbkjaaSeqEach
import Derived.RangeFuncBox
import Derived.Deep.RegionHeld3
namespace Go.Proofs.Yteajlffchdbkjaa.Nt
open Go.RowKit Go.Maps Go.Proofs.YteajlffchdbkjaaW.PrintWords Go.Proofs.YteajlffchdbkjaaW.PrintLast Go.Proofs.YteajlffchdbkjaaW.PrintMore
set_option linter.unusedVariables false
set_option maxRecDepth 20000
set_option linter.unusedSimpArgs false

/-! ### bytes as a string -/
theorem str_size (l : List Int) : (strOfNums l).size = l.length := by simp [strOfNums, ByteArray.size]
theorem str_inj {l l' : List Int} (h : ∀ b ∈ l, 0 ≤ b ∧ b ≤ 255) (h' : ∀ b ∈ l', 0 ≤ b ∧ b ≤ 255) (e : strOfNums l = strOfNums l') : l = l' := by
  have e1 : (l.map fun n => UInt8.ofNat n.toNat) = (l'.map fun n => UInt8.ofNat n.toNat) := by
    have := congrArg (fun s : ByteArray => s.data.toList) e
    simpa [strOfNums] using this
  clear e
  induction l generalizing l' with
  | nil => cases l' with
    | nil => rfl
    | cons y ys => simp at e1
  | cons x xs ih => cases l' with
    | nil => simp at e1
    | cons y ys =>
      simp only [List.map_cons, List.cons.injEq] at e1
      have hx := h x (by simp)
      have hy := h' y (by simp)
      have e2 := congrArg UInt8.toNat e1.1
      simp only [UInt8.toNat_ofNat'] at e2
      have : x = y := by omega
      rw [this, ih (fun b hb => h b (by simp [hb])) (fun b hb => h' b (by simp [hb])) e1.2]

/-! ### an entry -/
abbrev Ent := Int × List Int
def fine (x : Ent) : Prop := (-9223372036854775808 ≤ x.1 ∧ x.1 ≤ 9223372036854775807) ∧ (∀ b ∈ x.2, 0 ≤ b ∧ b ≤ 255) ∧ x.2.length ≤ 140737488355328
def dE : Kd (Int × ByteArray) := Kd.pair (Kd.int .i64) Kd.string
def en (x : Ent) : Int × ByteArray := (x.1, strOfNums x.2)
def keyV (x : Ent) : Value := .agg #[.int .i64 x.1, .string (strOfNums x.2)]
theorem en_inj {x y : Ent} (hx : fine x) (hy : fine y) (e : en x = en y) : x = y := by
  obtain ⟨p, l⟩ := x
  obtain ⟨q, m⟩ := y
  simp only [en, Prod.mk.injEq] at e
  have e2 : l = m := str_inj hx.2.1 hy.2.1 e.2
  rw [e.1, e2]
theorem keyV_inj {x y : Ent} (hx : fine x) (hy : fine y) (e : keyV x = keyV y) : x = y := by
  simp only [keyV, Value.agg.injEq, Array.mk.injEq, List.cons.injEq, Value.int.injEq, Value.string.injEq, true_and, and_true] at e
  exact en_inj hx hy (by simp [en, e.1, e.2])
theorem laidOut : laidOutB Try.prog = true := by kernel_rfl
theorem rowE : (123 : TypeId) < Try.prog.types.size := of_decide_eq_true (by kernel_rfl)
theorem wideE : (match Try.prog.underlying 123 with | some (.array _ _) | some (.struct _) => true | _ => false) = true := by rw [Try.underlying123]
theorem law : Keyed Try.prog 123 := Keyed.of_law (deep_law_laid laidOut (m := 2) (by omega) rowE (by kernel_rfl) wideE)
theorem key_some (x : Ent) (h : fine x) : ∃ kl, keyOf Try.prog 123 (keyV x) = some kl := by
  have hk : Try.prog.keyType 123 = true := by kernel_rfl
  have hc : Try.prog.cellsOf 123 = 2 := by kernel_rfl
  have h3 : Try.prog.cellsOf 3 = 1 := by kernel_rfl
  have h9 : Try.prog.cellsOf 9 = 1 := by kernel_rfl
  obtain ⟨n, hn⟩ : ∃ n, Try.prog.types.size + 1 = n + 2 := ⟨Try.prog.types.size - 1, by have : 1 ≤ Try.prog.types.size := of_decide_eq_true (by kernel_rfl); omega⟩
  have hw : (Lit.int .i64 x.1).wf = true := WalkArith.wf_i64 (by have := h.1; omega)
  have hs : (strOfNums x.2).size ≤ maxLen := by rw [str_size]; have := h.2.2; unfold maxLen; omega
  have hf : (keyV x).formed Try.prog 123 = true := by
    unfold keyV Value.formed
    rw [Try.underlying123, hc]
    rfl
  unfold keyOf
  rw [Try.underlying123, hk, hf, hn]
  have e3 : Try.prog.keyLits (n + 1) 3 [.int .i64 x.1] = some [.int .i64 x.1] := by
    unfold Program.keyLits
    rw [Try.underlying3]
    show (if IntKind.i64 = IntKind.i64 ∧ (Lit.int .i64 x.1).wf = true then _ else _) = _
    rw [if_pos ⟨rfl, hw⟩]
  have e9 : Try.prog.keyLits (n + 1) 9 [.string (strOfNums x.2)] = some [.string (strOfNums x.2).data.toList] := by
    unfold Program.keyLits
    rw [Try.underlying9]
    show (if (strOfNums x.2).size ≤ maxLen then _ else _) = _
    rw [if_pos hs]
  show ∃ kl, (Option.map (fun ls => Lit.string (keyBytes ls)) (Try.prog.keyLits (n + 1 + 1) 123 [.int .i64 x.1, .string (strOfNums x.2)])) = some kl
  rw [Program.keyLits.eq_def]
  dsimp only
  rw [Try.underlying123, hc]
  dsimp only
  rw [if_pos ⟨rfl, by kernel_rfl⟩]
  simp only [List.mapM_cons, List.mapM_nil, h3, h9, List.drop_zero, List.drop_succ_cons, List.take_succ_cons, List.take_zero, e3, e9]
  exact ⟨_, rfl⟩
noncomputable def kl (x : Ent) : Lit := (keyOf Try.prog 123 (keyV x)).getD (.bool false)
theorem key_kl {x : Ent} (h : fine x) : keyOf Try.prog 123 (keyV x) = some (kl x) := by
  obtain ⟨k, hk⟩ := key_some x h
  rw [kl, hk, Option.getD_some]
theorem kl_inj {x y : Ent} (hx : fine x) (hy : fine y) (e : kl x = kl y) : x = y := by
  have h1 := key_kl hx
  have h2 := key_kl hy
  rw [← e] at h2
  exact keyV_inj hx hy (law.inj h1 h2)
theorem kl_key {x : Ent} (h : fine x) : WideAt.IsKeyLit (kl x) := law.key (key_kl h)

/-! ### what the map holds -/
def z64 : DataW Unit := .lit (.int .u64 0)
def Agr (D : DataW Unit) (L : List Ent) : Prop :=
  IsMap D ∧ ∀ x, fine x → (x ∈ L → Maps.has D (kl x) = true ∧ D.atKey (kl x) z64 = .lit (.int .u64 (L.idxOf x + 1))) ∧ (x ∉ L → Maps.has D (kl x) = false)
theorem agr_nil : Agr (.map []) [] := ⟨isMap_empty, fun x _ => ⟨fun h => by simp at h, fun _ => rfl⟩⟩
theorem agr_snoc {D : DataW Unit} {L : List Ent} (h : Agr D L) (hL : ∀ x ∈ L, fine x) {x : Ent} (hx : fine x) (hn : x ∉ L) : Agr (D.put (kl x) (.lit (.int .u64 (L.length + 1)))) (L ++ [x]) := by
  refine ⟨h.1.put _ _, fun y hy => ⟨fun hm => ?_, fun hm => ?_⟩⟩
  · by_cases e : y = x
    · subst e
      refine ⟨has_put_same h.1 (kl_key hx) _, ?_⟩
      rw [atKey_put_same h.1 (kl_key hx), List.idxOf_append, if_neg hn]
      simp
    · have hyL : y ∈ L := by
        rcases List.mem_append.1 hm with hm | hm
        · exact hm
        · exact absurd (List.mem_singleton.1 hm) e
      have hk : kl y ≠ kl x := fun he => e (kl_inj hy hx he)
      rw [has_put_other hk, atKey_put_other hk, List.idxOf_append, if_pos hyL]
      exact (h.2 y hy).1 hyL
  · have e : y ≠ x := fun e => hm (by simp [e])
    have hk : kl y ≠ kl x := fun he => e (kl_inj hy hx he)
    rw [has_put_other hk]
    exact (h.2 y hy).2 (fun hyL => hm (by simp [hyL]))

/-! ### a notary in memory: the blocks that are its own are among ok's -/
def NotAt (w : World) (base : Nat) (ok : Nat → Prop) (g : Nat) (L : List Ent) : Prop :=
  ∃ (B : Nat) (v : Value) (D : DataW Unit), w.heap[g]? = some (.cells #[.map (some B), v] 68 (0, 0)) ∧ (ok g ∧ ok B ∧ base ≤ g ∧ base ≤ B) ∧
    w.ownsMap Try.prog 123 (plainElem Try.prog 81) B L.length D ∧ Agr D L ∧ dE.R 123 w base ok v (L.map en) ∧ ∀ x ∈ L, fine x
/-- Off ok's blocks all lies as it lay. -/
def Off (ok : Nat → Prop) (w w' : World) : Prop := w.heap.size ≤ w'.heap.size ∧ ∀ b, b < w.heap.size → ¬ ok b → w'.heap[b]? = w.heap[b]?
theorem Off.refl (ok : Nat → Prop) (w : World) : Off ok w w := ⟨Nat.le_refl _, fun _ _ _ => rfl⟩
theorem Off.trans {ok : Nat → Prop} {a b c : World} (h : Off ok a b) (k : Off ok b c) : Off ok a c := ⟨Nat.le_trans h.1 k.1, fun i hi hn => (k.2 i (Nat.lt_of_lt_of_le hi h.1) hn).trans (h.2 i hi hn)⟩
theorem Off.alloc (ok : Nat → Prop) (w : World) (o : Obj) : Off ok w (w.alloc o) := by
  have h : Below w.heap.size w (w.alloc o) := (Below.refl _ _).alloc (Nat.le_refl _) _
  exact ⟨h.size, fun b hb _ => h.block b hb⟩
theorem Off.grown {ok : Nat → Prop} {a b : World} {row : Option Nat} (hg : a.grownBy b row) (hr : ∀ k, row = some k → ok k) : Off ok a b := ⟨hg.size, fun i hi hn => hg.block i hi (fun e => hn (hr i e.symm))⟩
theorem Off.set {ok : Nat → Prop} (w : World) {p : Addr} (hp : ok p.block) (v : Value) : Off ok w (w.setCell p v) :=
  ⟨by simp [World.setCell], fun b _ hn => Below.heap_setCell _ _ _ _ (fun e => hn (e ▸ hp))⟩
theorem NotAt.mono {w : World} {base : Nat} {ok ok' : Nat → Prop} {g : Nat} {L : List Ent} (h : NotAt w base ok g L) (ho : ∀ k, ok k → ok' k) : NotAt w base ok' g L := by
  obtain ⟨B, v, D, h1, ⟨h2, h3, h4⟩, h5, h6, h7, h8⟩ := h
  exact ⟨B, v, D, h1, ⟨ho _ h2, ho _ h3, h4⟩, h5, h6, Kd.R_mono h7 ho, h8⟩
theorem map_move {w w1 : World} {P : Program} {k n b : Nat} {R : Value → Option (DataW Unit × List MemPlace)} {D : DataW Unit} (h : w.ownsMap P k R b n D) (hm : w1.heap[b]? = w.heap[b]?) : w1.ownsMap P k R b n D := by
  obtain ⟨es, clock, hb, r⟩ := h
  exact ⟨es, clock, hm.trans hb, r⟩
theorem NotAt.step {w w1 : World} {base : Nat} {ok : Nat → Prop} {g : Nat} {L : List Ent} (h : NotAt w base ok g L) (hm : ∀ k, ok k → k < w.heap.size → w1.heap[k]? = w.heap[k]?) : NotAt w1 base ok g L := by
  obtain ⟨B, v, D, h1, ⟨h2, h3, h4⟩, h5, h6, h7, h8⟩ := h
  exact ⟨B, v, D, (hm g h2 (Array.getElem?_eq_some_iff.1 h1).1).trans h1, ⟨h2, h3, h4⟩, map_move h5 (hm B h3 h5.lt), h6, Kd.R_step h7 hm, h8⟩
theorem NotAt.bound {w : World} {base : Nat} {ok : Nat → Prop} {g : Nat} {L : List Ent} (h : NotAt w base ok g L) : NotAt w base (fun k => ok k ∧ base ≤ k ∧ k < w.heap.size) g L := by
  obtain ⟨B, v, D, h1, ⟨h2, h3, h4, h4'⟩, h5, h6, h7, h8⟩ := h
  exact ⟨B, v, D, h1, ⟨⟨h2, h4, (Array.getElem?_eq_some_iff.1 h1).1⟩, ⟨h3, h4', h5.lt⟩, h4, h4'⟩, h5, h6, Kd.R_mono (Kd.R_bound h7) (fun k hk => ⟨hk.1, hk.2.1, hk.2.2.1⟩), h8⟩

/-! ### what the functions answer -/
def mintF (L : List Ent) (p : Int) (t : List Int) : Int × Int × List Ent :=
  if p < 1 ∨ 2147483647 < p then (0, 1, L) else if (p, t) ∈ L then (L.idxOf (p, t) + 1, 0, L) else (L.length + 1, 0, L ++ [(p, t)])
def checkF (L : List Ent) (p : Int) (t : List Int) (tag : Int) : Int :=
  if tag < 1 ∨ (L.length : Int) < tag then 12 else if L[(tag - 1).toNat]? = some (p, t) then 0 else 12

/-! ### the walks -/
theorem infoE : (Try.prog.info? 123).map (fun i => (i.zero, i.size, i.bytes)) = some (some (.agg #[.int .i64 0, .string ByteArray.empty]), 2, 24) := by kernel_rfl
theorem zeroU (w : World) : (zeroValue 81).run Try.prog w = .ok (.int .u64 0) w := by kernel_rfl
theorem frozen_of_block {w w1 : World} {p : Addr} (h : w1.heap[p.block]? = w.heap[p.block]?) : w1.frozen? p = w.frozen? p := by unfold World.frozen?; rw [h]
theorem cell_cells2 {w : World} {g t : Nat} {cs : Array Value} (h : w.heap[g]? = some (.cells cs t (0, 0))) (j : Nat) (hj : j < cs.size) : w.cell? ⟨g, j, none⟩ = some cs[j] := by unfold World.cell?; rw [h]; simp [hj]
theorem frozen_cells2 {w : World} {g t : Nat} {cs : Array Value} (h : w.heap[g]? = some (.cells cs t (0, 0))) (j : Nat) : w.frozen? ⟨g, j, none⟩ = false := by unfold World.frozen?; rw [h]; simp
theorem set_cells2 {w : World} {g t : Nat} {x y z : Value} (h : w.heap[g]? = some (.cells #[x, y] t (0, 0))) : (w.setCell ⟨g, 1, none⟩ z).heap[g]? = some (.cells #[x, z] t (0, 0)) := by
  unfold World.setCell
  show (w.heap.modify g _)[g]? = _
  rw [Array.getElem?_modify, if_pos rfl, h]
  rfl
theorem wf_u64 {a : Int} (h : 0 ≤ a ∧ a ≤ 18446744073709551615) : (Lit.int .u64 a).wf = true := by
  simp [Lit.wf, IntKind.min, IntKind.max, IntKind.signed, IntKind.bits]
  omega
theorem Boxed2 (w : World) (t : TypeId) (cs : Array Value) : (w.alloc (.cells cs t)).heap[w.heap.size]? = some (.cells cs t (0, 0)) := (MapKept.heap_alloc w (.cells cs t)).1
theorem new_calls (w : World) : Calls Try.prog 10 #[] w fun e w' => ∃ g, e = .returned (.pointer (some ⟨g, 0, none⟩)) ∧ NotAt w' w.heap.size (fun k => w.heap.size ≤ k ∧ k < w'.heap.size) g [] ∧ Below w.heap.size w w' := by
  have hmm := @run_makeMap Try.prog
  go_enter Try.func10, Try.ntmps10
  go_wp2
  go_ret
  have hb : Below w.heap.size w ((w.alloc (.map #[] 0)).alloc (.cells #[.map (some w.heap.size), .slice none 0 0] 68)) := ((Below.refl _ w).alloc (Nat.le_refl _) _).alloc (by simp) _
  have hn := Boxed2 (w.alloc (.map #[] 0)) 68 #[.map (some w.heap.size), .slice none 0 0]
  rw [World.size_alloc] at hn
  have hm := (World.ownsMap_made (H := Unit) w Try.prog 123 (plainElem Try.prog 81)).alloc (.cells #[.map (some w.heap.size), .slice none 0 0] 68)
  refine ⟨w.heap.size + 1, rfl, ⟨w.heap.size, .slice none 0 0, _, hn, ⟨⟨by omega, by simp⟩, ⟨by omega, by simp only [World.size_alloc]; omega⟩, by omega, by omega⟩, hm, agr_nil, Kd.R_nil _ _ _ _ _, fun x hx => by simp at hx⟩, hb⟩
/-- Behind the append and its store. -/
def MidM (w wx : World) (base : Nat) (ok : Nat → Prop) (g B : Nat) (L : List Ent) (x : Ent) (s : ByteArray) : Prop :=
  ∃ A5 cp5, wx.heap[g]? = some (.cells #[.map (some B), .slice A5 (L.length + 1) cp5] 68 (0, 0)) ∧ dE.R 123 wx base ok (.slice A5 (L.length + 1) cp5) (L.map en ++ [en x]) ∧ Below base w wx ∧ Off ok w wx ∧ wx.heap[B]? = w.heap[B]? ∧
    wx.heap[w.heap.size]? = some (.cells #[.int .i64 x.1, .string s] 123 (0, 0))
theorem R_map {α : Type} {d : Kd α} {e : Nat} {w w1 : World} {base : Nat} {ok : Nat → Prop} {v : Value} {xs : List α} {B : Nat} (h : d.R e w base ok v xs) (hB : ∃ es c, w.heap[B]? = some (.map es c)) (hg : w.grownBy w1 (some B)) : d.R e w1 base ok v xs := by
  obtain ⟨es, c, hB⟩ := hB
  exact Kd.R_mono (Kd.R_step (Kd.R_bound h) (fun k hk hlt => hg.block k hlt (fun e => by
    injection e with e
    obtain ⟨_, _, _, q, _, cells, hc⟩ := hk
    rw [e, hB] at hc
    cases hc))) (fun k hk => hk.1)
theorem dE_E (q : Nat) (hq : q ∈ (123 : Nat) :: dE.E) : q ≠ 68 := by
  have h : dE.E = [] := rfl
  rw [h, List.mem_singleton] at hq
  rw [hq]
  decide
theorem midM_mk {w W w5 : World} {base : Nat} {ok : Nat → Prop} {g B : Nat} {L : List Ent} {x : Ent} {s : ByteArray} {v : Value} {A5 : Option Addr} {cp5 : Nat} (hgok : ok g) (hbg : base ≤ g) (hB : ∃ es c, w.heap[B]? = some (.map es c))
    (h7 : dE.R 123 w base ok v (L.map en)) (hW : Below w.heap.size w W) (hWs : w.heap.size < W.heap.size) (hWg : W.heap[g]? = some (.cells #[.map (some B), v] 68 (0, 0))) (hWe : W.heap[w.heap.size]? = some (.cells #[.int .i64 x.1, .string s] 123 (0, 0)))
    (ho : dE.R 123 w5 base ok (.slice A5 (L.length + 1) cp5) (L.map en ++ [en x])) (hb5 : Below base w w5) (hg5 : W.grownBy w5 v.ownBlock) (hg : g < w.heap.size) :
    MidM w (w5.setCell ⟨g, 1, none⟩ (.slice A5 (L.length + 1) cp5)) base ok g B L x s := by
  obtain ⟨es, cl, hB⟩ := hB
  have hBlt : B < w.heap.size := (Array.getElem?_eq_some_iff.1 hB).1
  obtain ⟨inner, hown⟩ := Kd.R_own h7
  have hvlt : ∀ k, v.ownBlock = some k → k < w.heap.size := fun k hk => own_lt hown k hk
  have hvty : ∀ k, v.ownBlock = some k → ∃ cells, w.heap[k]? = some (.cells cells 123 (0, 0)) := fun k hk => own_typed hown k hk
  have hgv : some g ≠ v.ownBlock := fun e => by
    obtain ⟨cells, hc⟩ := hvty g e.symm
    have := (hW.block g hg).trans hc
    rw [hWg] at this
    injection this with this
    injection this with _ this
    exact absurd this (by decide)
  have hBv : some B ≠ v.ownBlock := fun e => by
    obtain ⟨cells, hc⟩ := hvty B e.symm
    rw [hB] at hc
    cases hc
  have hEv : some w.heap.size ≠ v.ownBlock := fun e => by have := hvlt _ e.symm; omega
  have h5g := (hg5.block g (by omega) hgv).trans hWg
  have hgB : B ≠ g := fun e => by
    rw [e, ← hW.block g hg, hWg] at hB
    cases hB
  refine ⟨A5, cp5, ?_, Kd.R_set ho h5g dE_E 1 _, hb5.setCell (p := ⟨g, 1, none⟩) hbg _, ?_, ?_, ?_⟩
  · exact set_cells2 h5g
  · have o1 : Off ok w W := ⟨hW.size, fun b hb _ => hW.block b hb⟩
    exact (o1.trans (Off.grown hg5 (fun k hk => h7.1 k hk))).trans (Off.set w5 (p := ⟨g, 1, none⟩) hgok _)
  · rw [Below.heap_setCell _ _ _ _ hgB]
    exact (hg5.block B (by omega) hBv).trans (hW.block B hBlt)
  · rw [Below.heap_setCell _ _ _ _ (by show w.heap.size ≠ g; omega)]
    exact (hg5.block _ hWs hEv).trans hWe
set_option maxRecDepth 100000 in
set_option maxHeartbeats 2000000 in
theorem mint_new (w : World) (base : Nat) (ok : Nat → Prop) (g : Nat) (L : List Ent) (p : Int) (A : Option Addr) (c : Nat) (l : List Int) (h : NotAt w base ok g L) (hfr : ∀ k, w.heap.size ≤ k → ok k) (hb : base ≤ w.heap.size)
    (hp1 : 1 ≤ p) (hp2 : p ≤ 2147483647) (hr : Kd.C (Kd.int .u8) w A l.length l) (hc : l.length ≤ c) (hx : fine (p, l)) (hnot : (p, l) ∉ L) (hL : L.length ≤ 1000000) :
    Calls Try.prog 46 #[.pointer (some ⟨g, 0, none⟩), .int .i64 p, .slice A l.length c] w fun e w' => e = .returned (.tuple #[.int .u64 (L.length + 1), .int .i64 0]) ∧ NotAt w' base ok g (L ++ [(p, l)]) ∧ Below base w w' ∧ Off ok w w' := by
  obtain ⟨B, v, D, h1, ⟨h2, h3, h4, h4'⟩, h5, h6, h7, h8⟩ := h
  obtain ⟨Av, cv, hv, hcv, hCv⟩ := Kd.R_reads h7
  rw [List.length_map] at hv hcv
  subst hv
  have qs := Kd.C_string (src := 36) (dst := 9) (e := 5) (c := c) Try.underlying36 Try.underlying5 Try.underlying9 hr
  obtain ⟨s, hs⟩ : ∃ s, strOfNums l = s := ⟨_, rfl⟩
  rw [hs] at qs
  have c0 : w.cell? ⟨g, 0, none⟩ = some (.map (some B)) := by unfold World.cell?; rw [h1]; simp
  have c1 : w.cell? ⟨g, 1, none⟩ = some (.slice Av L.length cv) := by unfold World.cell?; rw [h1]; simp
  have f1 : w.frozen? ⟨g, 1, none⟩ = false := by unfold World.frozen?; rw [h1]; simp
  have hlook : ∀ (W : World), W.heap[B]? = w.heap[B]? → ∃ v : Int, (Instr.lookup 65 (.map (some B)) (.agg #[.int .i64 p, .string s]) true).run Try.prog W = .ok (.tuple #[.int .u64 v, .bool false]) W := fun W hW => by
    obtain ⟨v, ps, hrun, hv⟩ := (map_move h5 hW).look_ok law Try.underlying65 (zeroU W) (plainElem_int Try.underlying81 (by decide)) (key_kl hx)
    obtain ⟨c, rfl, _, _⟩ := plainElem_int_inv Try.underlying81 hv
    rw [(h6.2 _ hx).2 hnot] at hrun
    rw [← hs]
    exact ⟨c, hrun⟩
  obtain ⟨W1, hW1⟩ : ∃ W1, w.alloc (.cells #[.int .i64 p, .string s] 123) = W1 := ⟨_, rfl⟩
  have hbl : Below w.heap.size w W1 := by rw [← hW1]; exact (Below.refl _ _).alloc (Nat.le_refl _) _
  have hs1 : W1.heap.size = w.heap.size + 1 := by rw [← hW1]; simp
  have hE1 : W1.heap[w.heap.size]? = some (.cells #[.int .i64 p, .string s] 123 (0, 0)) := by rw [← hW1]; exact Boxed2 _ _ _
  obtain ⟨v1, hl1⟩ := hlook W1.drew (hbl.block B h5.lt)
  have hg0 : g < w.heap.size := (Array.getElem?_eq_some_iff.1 h1).1
  have c0 := (World.cell?_of_block (w := w) (a := ⟨g, 0, none⟩) (hbl.block g hg0)).trans c0
  have c1 := (World.cell?_of_block (w := w) (a := ⟨g, 1, none⟩) (hbl.block g hg0)).trans c1
  have f1 := (frozen_of_block (w := w) (p := ⟨g, 1, none⟩) (hbl.block g hg0)).trans f1
  have e0 : W1.cell? ⟨w.heap.size, 0, none⟩ = some (.int .i64 p) := by unfold World.cell?; rw [hE1]; simp
  have e1 : W1.cell? ⟨w.heap.size, 1, none⟩ = some (.string s) := by unfold World.cell?; rw [hE1]; simp
  have HX := Lib.hid hx
  have HN := Lib.hid hnot
  have HR := Lib.hid hr
  have H5 := Lib.hid h5
  have H6 := Lib.hid h6
  have H7 := Lib.hid h7
  have H8 := Lib.hid h8
  have H1 := Lib.hid h1
  have HFR := Lib.hid hfr
  have HS := Lib.hid hs
  clear hx hnot hr h5 h6 h7 h8 h1 hfr hlook hCv hs
  have g1 : decide (p < 1) = false := decide_eq_false (by omega)
  have g2 : decide (2147483647 < p) = false := decide_eq_false (by omega)
  go_enter Try.func46, Try.ntmps46
  go_wp2
  clear hW1
  go_region
  obtain ⟨W2, hW2⟩ : ∃ W2, W1.drew = W2 := ⟨_, rfl⟩
  have HW2 := Lib.hid hW2
  have k2 : ∀ k : Nat, W2.drew.heap[k]? = W1.heap[k]? := fun k => by rw [← hW2]; rfl
  have c0' : W2.cell? ⟨g, 0, none⟩ = some (.map (some B)) := by rw [← hW2]; exact c0
  have c1' : W2.cell? ⟨g, 1, none⟩ = some (.slice Av L.length cv) := by rw [← hW2]; exact c1
  have e0' : W2.cell? ⟨w.heap.size, 0, none⟩ = some (.int .i64 p) := by rw [← hW2]; exact e0
  have e1' : W2.cell? ⟨w.heap.size, 1, none⟩ = some (.string s) := by rw [← hW2]; exact e1
  have hs2 : W2.heap.size = w.heap.size + 1 := by rw [← hW2]; exact hs1
  have hs2d : W2.drew.heap.size = W2.heap.size := rfl
  have hb2 : Below w.heap.size w W2.drew := by rw [← hW2]; exact ⟨hbl.os, hbl.tape, hbl.output, hbl.size, hbl.block⟩
  rw [hW2]
  clear hW2 c0 c1 f1 e0 e1 hl1
  have HR2 := Lib.hid (Kd.R_step (w1 := W2.drew) H7.out (fun k _ hk => (k2 k).trans (hbl.block k hk)))
  have Hp := Lib.hid (show ∀ (W : World) (b : Nat) (o : Nat → Prop), dE.M W b o (en (p, l)) [.int .i64 p, .string s] from fun W b o => ⟨[_], [_], rfl, rfl, by rw [← HS.out]; rfl⟩)
  have Hf2 := Lib.hid (show ∀ k, W2.drew.heap.size ≤ k → ok k from fun k hk => HFR.out k (by omega))
  have Hb2 := Lib.hid (hb2.mono hb)
  have HB := Lib.hid (show ∃ es c, w.heap[B]? = some (.map es c) from by obtain ⟨es, c, hb, _⟩ := H5.out; exact ⟨es, c, hb⟩)
  have HbW := Lib.hid hb2
  have HsW := Lib.hid (show w.heap.size < W2.drew.heap.size by rw [hs2d, hs2]; omega)
  have HeW := Lib.hid ((k2 _).trans hE1)
  have Hg2 := Lib.hid (show W2.drew.heap[g]? = some (.cells #[.map (some B), .slice Av L.length cv] 68 (0, 0)) from (k2 g).trans ((hbl.block g hg0).trans H1.out))
  clear hb2 k2
  go_upto_region 6 with fail
  go_cut [] from 11 (fun wx => MidM w wx base ok g B L (p, l) s)
  case first =>
   go_region_law (refine Kd.R_append_step dE (w0 := w) base (by rfl) (.tmp 36) (.tmp 38) 66 123 (.agg #[.int .i64 0, .string ByteArray.empty]) 24 rfl Try.underlying66 infoE rfl (by decide) (by decide) (.slice Av L.length cv) (L.map en) (en (p, l)) [.int .i64 p, .string s] ok (fun _ => False) (by simp [Act.eval]) (by simp [Act.eval]) (Hp.out _ _ _) (fun _ hk => hk.elim) Hf2.out HR2.out Hb2.out (by omega) (by rw [List.length_map]; omega) ?_; intro v5 w5 ho5 hb5 hg5 hat5; obtain ⟨A5, cp5, hv5, _, _⟩ := Kd.R_reads ho5; rw [List.length_append, List.length_map, List.length_singleton] at hv5; subst hv5; have hg5g := (hg5.block g (by omega) (Kd.R_ne HR2.out Hg2.out (by decide))).trans Hg2.out; have c5 := cell_cells2 hg5g 1 (Nat.lt_succ_self 1); have f5 := frozen_cells2 hg5g 1; have c50 := cell_cells2 hg5g 0 (Nat.zero_lt_succ 1))
   all_goals
    go_wp2_with fail
    go_meet
    case rel => exact midM_mk h2 h4 HB.out H7.out HbW.out HsW.out Hg2.out HeW.out ho5 hb5 hg5 hg0
  case rest =>
    obtain ⟨A5, cp5, m1, m2, m3, m4, m5, m6⟩ := hcut
    clear c0' c1' e0' e1' hs2 hs2d hs1 hE1 hbl hg0
    obtain ⟨W5, hW5⟩ : ∃ W5, wc = W5 := ⟨_, rfl⟩
    subst hW5
    have d0 := cell_cells2 m1 0 (Nat.zero_lt_succ 1)
    have d1 := cell_cells2 m1 1 (Nat.lt_succ_self 1)
    have d2 := cell_cells2 m6 0 (Nat.zero_lt_succ 1)
    have d3 := cell_cells2 m6 1 (Nat.lt_succ_self 1)
    obtain ⟨w6, hr6, hown6, ht6⟩ := (show wc.drew.ownsMap Try.prog 123 (plainElem Try.prog 81) B L.length D from map_move H5.out m5).store law Try.underlying65 (by unfold maxLen; omega) (key_kl HX.out) (plainElem_int Try.underlying81 (a := (L.length : Int) + 1) (wf_u64 (by omega)))
    unfold keyV at hr6
    rw [HS.out] at hr6
    have M1 := Lib.hid m1
    have M6 := Lib.hid m6
    have M5 := Lib.hid m5
    clear m1 m6 m5
    go_upto_region 8 with fail
    go_region
    go_wp2
    go_ret2
    refine ⟨rfl, ?_⟩
    have hg6 : wc.grownBy w6 (some B) := ⟨ht6.grown.os, ht6.grown.tape, ht6.grown.output, ht6.grown.size, ht6.grown.block⟩
    have hgB : some g ≠ some B := fun e => by
      obtain ⟨es, c, hb⟩ := HB.out
      injection e with e
      have := M5.out.trans hb
      rw [← e, M1.out] at this
      cases this
    have hg6g := (hg6.block g (Array.getElem?_eq_some_iff.1 M1.out).1 hgB).trans M1.out
    have hR6 := R_map m2 (by obtain ⟨es, c, hb⟩ := HB.out; exact ⟨es, c, M5.out.trans hb⟩) hg6
    refine ⟨⟨B, _, _, hg6g, ⟨h2, h3, h4, h4'⟩, ?_, agr_snoc H6.out H8.out HX.out HN.out, by rw [List.map_append]; exact hR6, ?_⟩, m3.grown hg6 (Nat.le_trans hb m4.1) (fun k e => by cases e; exact h4'), m4.trans (Off.grown hg6 (fun k e => by cases e; exact h3))⟩
    · rw [List.length_append]; exact hown6
    · intro y hy
      rcases List.mem_append.1 hy with hy | hy
      · exact H8.out y hy
      · rw [List.mem_singleton.1 hy]; exact HX.out

set_option maxRecDepth 100000 in
set_option maxHeartbeats 2000000 in
theorem mint_old (w : World) (base : Nat) (ok : Nat → Prop) (g : Nat) (L : List Ent) (p : Int) (A : Option Addr) (c : Nat) (l : List Int) (h : NotAt w base ok g L) (hb : base ≤ w.heap.size)
    (hp1 : 1 ≤ p) (hp2 : p ≤ 2147483647) (hr : Kd.C (Kd.int .u8) w A l.length l) (hx : fine (p, l)) (hmem : (p, l) ∈ L) :
    Calls Try.prog 46 #[.pointer (some ⟨g, 0, none⟩), .int .i64 p, .slice A l.length c] w fun e w' => e = .returned (.tuple #[.int .u64 (L.idxOf (p, l) + 1), .int .i64 0]) ∧ Below w.heap.size w w' := by
  obtain ⟨B, v, D, h1, ⟨h2, h3, h4, h4'⟩, h5, h6, h7, h8⟩ := h
  have qs := Kd.C_string (src := 36) (dst := 9) (e := 5) (c := c) Try.underlying36 Try.underlying5 Try.underlying9 hr
  obtain ⟨s, hs⟩ : ∃ s, strOfNums l = s := ⟨_, rfl⟩
  rw [hs] at qs
  have hlook : ∀ (W : World), W.heap[B]? = w.heap[B]? → (Instr.lookup 65 (.map (some B)) (.agg #[.int .i64 p, .string s]) true).run Try.prog W = .ok (.tuple #[.int .u64 (L.idxOf (p, l) + 1), .bool true]) W := fun W hW => by
    obtain ⟨v, ps, hrun, hv⟩ := (map_move h5 hW).look_ok law Try.underlying65 (zeroU W) (zd := z64) (plainElem_int Try.underlying81 (by decide)) (key_kl hx)
    obtain ⟨c, rfl, hc, _⟩ := plainElem_int_inv Try.underlying81 hv
    have h6' := (h6.2 _ hx).1 hmem
    rw [h6'.1] at hrun
    rw [h6'.2] at hc
    injection hc with hc
    injection hc with hc
    injection hc with _ hc
    subst hc
    rw [← hs]
    exact hrun
  have hg0 : g < w.heap.size := (Array.getElem?_eq_some_iff.1 h1).1
  obtain ⟨W1, hW1⟩ : ∃ W1, w.alloc (.cells #[.int .i64 p, .string s] 123) = W1 := ⟨_, rfl⟩
  have hbl : Below w.heap.size w W1 := by rw [← hW1]; exact (Below.refl _ _).alloc (Nat.le_refl _) _
  have hE1 : W1.heap[w.heap.size]? = some (.cells #[.int .i64 p, .string s] 123 (0, 0)) := by rw [← hW1]; exact Boxed2 _ _ _
  have hl1 := hlook W1.drew (hbl.block B h5.lt)
  have c0 := cell_cells2 ((hbl.block g hg0).trans h1) 0 (Nat.zero_lt_succ 1)
  have e0 := cell_cells2 hE1 0 (Nat.zero_lt_succ 1)
  have e1 := cell_cells2 hE1 1 (Nat.lt_succ_self 1)
  clear h5 h6 h7 h8 h1 hlook hr hx hmem hs hE1
  have g1 : decide (p < 1) = false := decide_eq_false (by omega)
  have g2 : decide (2147483647 < p) = false := decide_eq_false (by omega)
  have HB := Lib.hid hbl
  clear hbl
  go_enter Try.func46, Try.ntmps46
  go_wp2
  clear hW1
  go_region
  go_wp2
  go_ret2
  exact ⟨rfl, HB.out.os, HB.out.tape, HB.out.output, HB.out.size, HB.out.block⟩
theorem mint_arg (w : World) (g : Nat) (p : Int) (A : Option Addr) (n c : Nat) (hp : p < 1 ∨ 2147483647 < p) :
    Calls Try.prog 46 #[.pointer (some ⟨g, 0, none⟩), .int .i64 p, .slice A n c] w fun e w' => e = .returned (.tuple #[.int .u64 0, .int .i64 1]) ∧ w = w' := by
  by_cases h1 : p < 1
  · have g1 : decide (p < 1) = true := decide_eq_true h1
    go_enter Try.func46, Try.ntmps46
    go_wp2
    go_ret2
    exact ⟨rfl, rfl⟩
  · have g1 : decide (p < 1) = false := decide_eq_false h1
    have g2 : decide (2147483647 < p) = true := decide_eq_true (by omega)
    go_enter Try.func46, Try.ntmps46
    go_wp2
    go_ret2
    exact ⟨rfl, rfl⟩
theorem Off.below {ok : Nat → Prop} {w w1 : World} (h : Below w.heap.size w w1) : Off ok w w1 := ⟨h.size, fun b hb _ => h.block b hb⟩
/-- Mint, whatever the peer, the text and the entries. -/
theorem mint_calls (w : World) (base : Nat) (ok : Nat → Prop) (g : Nat) (L : List Ent) (p : Int) (A : Option Addr) (c : Nat) (l : List Int) (h : NotAt w base ok g L) (hfr : ∀ k, w.heap.size ≤ k → ok k) (hb : base ≤ w.heap.size)
    (hr : Kd.C (Kd.int .u8) w A l.length l) (hc : l.length ≤ c) (hx : fine (p, l)) (hL : L.length ≤ 1000000) :
    Calls Try.prog 46 #[.pointer (some ⟨g, 0, none⟩), .int .i64 p, .slice A l.length c] w fun e w' => e = .returned (.tuple #[.int .u64 (mintF L p l).1, .int .i64 (mintF L p l).2.1]) ∧ NotAt w' base ok g (mintF L p l).2.2 ∧ Below base w w' ∧ Off ok w w' := by
  unfold mintF
  by_cases hp : p < 1 ∨ 2147483647 < p
  · rw [if_pos hp]
    exact (mint_arg w g p A l.length c hp).mono fun e w' ⟨he, hw⟩ => ⟨he, by rw [← hw]; exact h, by rw [← hw]; exact Below.refl _ _, by rw [← hw]; exact Off.refl _ _⟩
  · rw [if_neg hp]
    by_cases hm : (p, l) ∈ L
    · rw [if_pos hm]
      exact (mint_old w base ok g L p A c l h hb (by omega) (by omega) hr hx hm).mono fun e w' ⟨he, hw⟩ => ⟨he, h.step (fun k _ hk => hw.block k hk), hw.mono hb, Off.below hw⟩
    · rw [if_neg hm]
      exact mint_new w base ok g L p A c l h hfr hb (by omega) (by omega) hr hc hx hm hL
end Go.Proofs.Yteajlffchdbkjaa.Nt
namespace Go.Proofs.Yteajlffchdbkjaa.Nt
open Go.RowKit Go.Maps Go.Lib Go.Proofs.YteajlffchdbkjaaW.PrintWords Go.Proofs.YteajlffchdbkjaaW.PrintLast Go.Proofs.YteajlffchdbkjaaW.PrintMore
set_option linter.unusedVariables false
set_option linter.unusedSimpArgs false
/-! ### Check -/
theorem eqE (d : Nat) (w : World) (x y : Int) (s t : ByteArray) : (Op.equalIn (d + 2) 123 (.agg #[.int .i64 x, .string s]) (.agg #[.int .i64 y, .string t])).run Try.prog w = .ok (x == y && (s.toList == t.toList)) w := by
  refine eqA_of Try.underlying123 (by kernel_rfl) ?_
  refine eqf_cons (by rfl) (by go_simp; rfl) (by go_simp; rfl) (by go_simp) ?_
  exact eqf_last (by rfl) (by go_simp; rfl) (by go_simp; rfl) (by go_simp)
attribute [local go_sem high] eqE
theorem eqE' (w : World) (x y : Int) (s t : ByteArray) : (Op.equal 123 (.agg #[.int .i64 x, .string s]) (.agg #[.int .i64 y, .string t])).run Try.prog w = .ok (x == y && (s.toList == t.toList)) w := eqE _ w x y s t
theorem beq_str {a b : List Int} (ha : ∀ x ∈ a, 0 ≤ x ∧ x ≤ 255) (hb : ∀ x ∈ b, 0 ≤ x ∧ x ≤ 255) : ((strOfNums a).toList == (strOfNums b).toList) = decide (a = b) := by
  rw [Bool.eq_iff_iff, beq_iff_eq, decide_eq_true_iff]
  constructor
  · intro h
    rw [strOfNums_toList, strOfNums_toList] at h
    refine str_inj ha hb ?_
    unfold Lib.bytesOf at h
    unfold strOfNums
    rw [h]
  · intro h
    rw [h]
theorem dE_sz : dE.sz = 2 := rfl
theorem drewN_heap (w : World) (n : Nat) : (w.drewN n).heap = w.heap := rfl
theorem Kd.C_drewN {α : Type} {d : Kd α} {w : World} {A : Option Addr} {n : Nat} {xs : List α} (h : d.C w A n xs) (k : Nat) : d.C (w.drewN k) A n xs := Kd.C_below h ⟨rfl, rfl, rfl, Nat.le_refl _, fun _ _ => rfl⟩
set_option maxRecDepth 100000 in
set_option maxHeartbeats 2000000 in
theorem check_calls (w : World) (base : Nat) (ok : Nat → Prop) (g : Nat) (L : List Ent) (p : Int) (A : Option Addr) (c : Nat) (l : List Int) (tag : Int) (h : NotAt w base ok g L) (hr : Kd.C (Kd.int .u8) w A l.length l) (hc : l.length ≤ c) (hx : fine (p, l)) (hL : L.length ≤ 1000000) (ht : 0 ≤ tag ∧ tag ≤ 18446744073709551615) :
    Calls Try.prog 30 #[.pointer (some ⟨g, 0, none⟩), .int .i64 p, .slice A l.length c, .int .u64 tag] w fun e w' => e = .returned (.int .i64 (checkF L p l tag)) ∧ ∃ n, w' = w.drewN n := by
  obtain ⟨B, v, D, h1, _, h5, h6, h7, h8⟩ := h
  obtain ⟨Av, cv, hv, hcv, hCv⟩ := Kd.R_reads h7
  rw [List.length_map] at hv hcv hCv
  subst hv
  have c1 := cell_cells2 h1 1 (Nat.lt_succ_self 1)
  have qs : ∀ n, (convert 36 9 (.slice A l.length c)).run Try.prog (w.drewN n) = .ok (.string (strOfNums l)) (w.drewN n) := fun n => Kd.C_string (src := 36) (dst := 9) (e := 5) (c := c) Try.underlying36 Try.underlying5 Try.underlying9 (Kd.C_drewN hr n)
  have eL : IntKind.u64.wrap (L.length : Int) = L.length := IntWalk.u64_in _ (by omega)
  unfold checkF
  by_cases h1 : tag < 1
  · have g1 : decide (tag < 1) = true := decide_eq_true h1
    rw [if_pos (.inl h1)]
    go_enter Try.func30, Try.ntmps30
    go_wp2
    go_quiet (fail)
    go_wp2
    go_ret
    exact ⟨rfl, _, rfl⟩
  · have g1 : decide (tag < 1) = false := decide_eq_false h1
    by_cases h2 : (L.length : Int) < tag
    · have g2 : decide ((L.length : Int) < tag) = true := decide_eq_true h2
      rw [if_pos (.inr h2)]
      go_enter Try.func30, Try.ntmps30
      go_wp2
      go_quiet (fail)
      go_wp2
      go_ret
      exact ⟨rfl, _, rfl⟩
    · have g2 : decide ((L.length : Int) < tag) = false := decide_eq_false h2
      rw [if_neg (by omega)]
      obtain ⟨i, hi⟩ : ∃ i : Nat, tag = (i : Int) + 1 := ⟨(tag - 1).toNat, by omega⟩
      subst hi
      have hiL : i < L.length := by omega
      obtain ⟨x, hxi⟩ : ∃ x, L[i] = x := ⟨_, rfl⟩
      have hxL : L[((i : Int) + 1 - 1).toNat]? = some x := by rw [show ((i : Int) + 1 - 1).toNat = i by omega, List.getElem?_eq_getElem hiL, hxi]
      rw [hxL]
      obtain ⟨ad, cs, hA, hcl, hK, hcell⟩ := Kd.C_get hCv ((0 : Int), ByteArray.empty) i (by omega) (by omega)
      subst hA
      have hge : (L.map en).getD (i : Int).toNat ((0 : Int), ByteArray.empty) = en x := by
        rw [Int.toNat_natCast, List.getD_eq_getElem?_getD, List.getElem?_map, List.getElem?_eq_getElem hiL, hxi]
        rfl
      rw [hge] at hK
      obtain ⟨_, _, rfl, rfl, rfl⟩ := hK
      have k0 : w.cell? (ad.add (i * 2)) = some (.int .i64 x.1) := by have := hcell 0 _ rfl; simpa [dE_sz, en] using this
      have k1 : w.cell? ⟨(ad.add (i * 2)).block, (ad.add (i * 2)).off + 1, none⟩ = some (.string (strOfNums x.2)) := by rw [← add_field _ _ 1 (by omega)]; exact hcell 1 _ rfl
      have hxf := h8 x (by rw [← hxi]; exact List.getElem_mem hiL)
      have e1 : IntKind.u64.wrap (i : Int) = (i : Int) := IntWalk.u64_in _ (by omega)
      have e1' : IntKind.u64.wrap ((i : Int) + 1 - 1) = (i : Int) := by rw [show (i : Int) + 1 - 1 = i by omega]; exact e1
      have hlt : (i : Int) < L.length := by omega
      by_cases hxe : x = (p, l)
      · subst hxe
        have qn : ∀ W, (Op.equal 123 (.agg #[.int .i64 p, .string (strOfNums l)]) (.agg #[.int .i64 p, .string (strOfNums l)])).run Try.prog W = .ok true W := fun W => by
          rw [eqE' W p p, beq_str hxf.2.1 hxf.2.1]; simp
        rw [if_pos rfl]
        clear h5 h6 h7 h8 hr hcell hCv hge hxL hxi hxf hx
        go_enter Try.func30, Try.ntmps30
        go_wp2
        go_quiet (fail)
        go_wp2
        go_ret
        exact ⟨rfl, _, rfl⟩
      · rw [if_neg (fun e => hxe (Option.some.inj e))]
        obtain ⟨y, m⟩ := x
        by_cases hy : y = p
        · subst hy
          have hm : ¬ m = l := fun e => hxe (by rw [e])
          have q2 : ((strOfNums m).toList == (strOfNums l).toList) = false := by rw [beq_str hxf.2.1 hx.2.1, decide_eq_false hm]
          have q1 : (y == y) = true := by simp
          clear h5 h6 h7 h8 hr hcell hCv hge hxL hxi hxf hx hxe hm
          go_enter Try.func30, Try.ntmps30
          go_wp2
          go_quiet (fail)
          go_wp2
          go_ret
          exact ⟨rfl, _, rfl⟩
        · have q1 : (y == p) = false := by simpa using hy
          clear h5 h6 h7 h8 hr hcell hCv hge hxL hxi hxf hx hxe hy
          go_enter Try.func30, Try.ntmps30
          go_wp2
          go_quiet (fail)
          go_wp2
          go_ret
          exact ⟨rfl, _, rfl⟩
end Go.Proofs.Yteajlffchdbkjaa.Nt
namespace Go.Proofs.Yteajlffchdbkjaa.Nt
open Go.RowKit Go.Maps Go.Proofs.YteajlffchdbkjaaW.PrintWords Go.Proofs.YteajlffchdbkjaaW.PrintLast Go.Proofs.YteajlffchdbkjaaW.PrintMore
set_option linter.unusedVariables false
set_option linter.unusedSimpArgs false

/-- A notary alone: it holds L; its blocks are new since base; none is one of av's. -/
def OneAt (w : World) (base : Nat) (g : Nat) (L : List Ent) (av : Nat → Prop) : Prop := ∃ ok, NotAt w base ok g L ∧ (∀ k, ok k → k < w.heap.size) ∧ ∀ k, av k → k < w.heap.size ∧ ¬ ok k
theorem OneAt.sub {w : World} {base g : Nat} {L : List Ent} {av av' : Nat → Prop} (h : OneAt w base g L av) (hs : ∀ k, av' k → av k) : OneAt w base g L av' := by
  obtain ⟨ok, h1, h2, h3⟩ := h
  exact ⟨ok, h1, h2, fun k hk => h3 k (hs k hk)⟩
theorem OneAt.step {w w1 : World} {base g : Nat} {L : List Ent} {av : Nat → Prop} (h : OneAt w base g L av) (hb : Below w.heap.size w w1) : OneAt w1 base g L (fun k => av k ∨ (w.heap.size ≤ k ∧ k < w1.heap.size)) := by
  obtain ⟨ok, h1, h2, h3⟩ := h
  exact ⟨ok, h1.step (fun k _ hk => hb.block k hk), fun k hk => Nat.lt_of_lt_of_le (h2 k hk) hb.size, fun k hk => hk.elim (fun a => ⟨Nat.lt_of_lt_of_le (h3 k a).1 hb.size, (h3 k a).2⟩) (fun a => ⟨a.2, fun ho => by have := h2 k ho; omega⟩)⟩
theorem OneAt.step' {w w1 : World} {base g : Nat} {L : List Ent} {av : Nat → Prop} (h : OneAt w base g L av) (hb : Below w.heap.size w w1) : OneAt w1 base g L av := (h.step hb).sub (fun k hk => .inl hk)
theorem OneAt.lower {w : World} {base base' g : Nat} {L : List Ent} {av : Nat → Prop} (h : OneAt w base g L av) (hb : base' ≤ base) : OneAt w base' g L av := by
  obtain ⟨ok, ⟨B, v, D, h1, ⟨h2, h3, h4, h4'⟩, h5, h6, h7, h8⟩, k2, k3⟩ := h
  exact ⟨ok, ⟨B, v, D, h1, ⟨h2, h3, by omega, by omega⟩, h5, h6, Kd.R_lower h7 hb, h8⟩, k2, k3⟩
theorem OneAt.fine {w : World} {base g : Nat} {L : List Ent} {av : Nat → Prop} (h : OneAt w base g L av) : ∀ x ∈ L, Nt.fine x := by
  obtain ⟨ok, ⟨B, v, D, _, _, _, _, _, h8⟩, _⟩ := h
  exact h8
theorem one_new (w : World) : Calls Try.prog 10 #[] w fun e w' => ∃ g, e = .returned (.pointer (some ⟨g, 0, none⟩)) ∧ OneAt w' w.heap.size g [] (fun k => k < w.heap.size) ∧ Below w.heap.size w w' :=
  (new_calls w).mono fun e w' ⟨g, he, h, hb⟩ => ⟨g, he, ⟨_, h, fun k hk => hk.2, fun k hk => ⟨Nat.lt_of_lt_of_le hk hb.size, fun ho => by omega⟩⟩, hb⟩
theorem one_mint (w : World) (base : Nat) (g : Nat) (L : List Ent) (av : Nat → Prop) (p : Int) (A : Option Addr) (c : Nat) (l : List Int) (h : OneAt w base g L av) (hb : base ≤ w.heap.size)
    (hr : Kd.C (Kd.int .u8) w A l.length l) (hc : l.length ≤ c) (hx : Nt.fine (p, l)) (hL : L.length ≤ 1000000) :
    Calls Try.prog 46 #[.pointer (some ⟨g, 0, none⟩), .int .i64 p, .slice A l.length c] w fun e w' => e = .returned (.tuple #[.int .u64 (mintF L p l).1, .int .i64 (mintF L p l).2.1]) ∧ OneAt w' base g (mintF L p l).2.2 av ∧ Below base w w' ∧ ∀ b, av b → w'.heap[b]? = w.heap[b]? := by
  obtain ⟨ok, h1, h2, h3⟩ := h
  exact (mint_calls w base (fun k => ok k ∨ w.heap.size ≤ k) g L p A c l (h1.mono (fun k hk => .inl hk)) (fun k hk => .inr hk) hb hr hc hx hL).mono fun e w' ⟨he, h4, h5, h6⟩ =>
    have hno : ∀ k, av k → ¬ (ok k ∨ w.heap.size ≤ k) := fun k hk e => e.elim (h3 k hk).2 (fun a => by have := (h3 k hk).1; omega)
    ⟨he, ⟨_, h4.bound, fun k hk => hk.2.2, fun k hk => ⟨Nat.lt_of_lt_of_le (h3 k hk).1 h6.1, fun a => hno k hk a.1⟩⟩, h5, fun b hb => h6.2 b (h3 b hb).1 (hno b hb)⟩
theorem one_check (w : World) (base : Nat) (g : Nat) (L : List Ent) (av : Nat → Prop) (p : Int) (A : Option Addr) (c : Nat) (l : List Int) (tag : Int) (h : OneAt w base g L av) (hr : Kd.C (Kd.int .u8) w A l.length l) (hc : l.length ≤ c) (hx : Nt.fine (p, l)) (hL : L.length ≤ 1000000) (ht : 0 ≤ tag ∧ tag ≤ 18446744073709551615) :
    Calls Try.prog 30 #[.pointer (some ⟨g, 0, none⟩), .int .i64 p, .slice A l.length c, .int .u64 tag] w fun e w' => e = .returned (.int .i64 (checkF L p l tag)) ∧ ∃ n, w' = w.drewN n := by
  obtain ⟨ok, h1, h2⟩ := h
  exact check_calls w base ok g L p A c l tag h1 hr hc hx hL ht
/-! ### the two side by side -/
theorem mintF_fine {L : List Ent} {p : Int} {l : List Int} (hL : ∀ x ∈ L, fine x) (hx : fine (p, l)) : ∀ x ∈ (mintF L p l).2.2, fine x := by
  unfold mintF
  split
  · exact hL
  · split
    · exact hL
    · intro y hy
      rcases List.mem_append.1 hy with hy | hy
      · exact hL y hy
      · rw [List.mem_singleton.1 hy]; exact hx
theorem mintF_length (L : List Ent) (p : Int) (l : List Int) : (mintF L p l).2.2.length ≤ L.length + 1 := by
  unfold mintF
  split
  · exact Nat.le_succ _
  · split
    · exact Nat.le_succ _
    · simp


theorem one_mint_n (w : World) (base : Nat) (g : Nat) (L : List Ent) (av : Nat → Prop) (p : Int) (A : Option Addr) (n c : Nat) (l : List Int) (hn : n = l.length) (h : OneAt w base g L av) (hb : base ≤ w.heap.size)
    (hr : Kd.C (Kd.int .u8) w A n l) (hc : n ≤ c) (hx : fine (p, l)) (hL : L.length ≤ 1000000) :
    Calls Try.prog 46 #[.pointer (some ⟨g, 0, none⟩), .int .i64 p, .slice A n c] w fun e w' => e = .returned (.tuple #[.int .u64 (mintF L p l).1, .int .i64 (mintF L p l).2.1]) ∧ OneAt w' base g (mintF L p l).2.2 av ∧ Below base w w' ∧ ∀ b, av b → w'.heap[b]? = w.heap[b]? := by
  subst hn
  exact one_mint w base g L av p A c l h hb hr hc hx hL
theorem one_check_n (w : World) (base : Nat) (g : Nat) (L : List Ent) (av : Nat → Prop) (p : Int) (A : Option Addr) (n c : Nat) (l : List Int) (tag : Int) (hn : n = l.length) (h : OneAt w base g L av) (hr : Kd.C (Kd.int .u8) w A n l) (hc : n ≤ c) (hx : fine (p, l)) (hL : L.length ≤ 1000000) (ht : 0 ≤ tag ∧ tag ≤ 18446744073709551615) :
    Calls Try.prog 30 #[.pointer (some ⟨g, 0, none⟩), .int .i64 p, .slice A n c, .int .u64 tag] w fun e w' => e = .returned (.int .i64 (checkF L p l tag)) ∧ ∃ n, w' = w.drewN n := by
  subst hn
  exact one_check w base g L av p A c l tag h hr hc hx hL ht
end Go.Proofs.Yteajlffchdbkjaa.Nt
namespace Go.Proofs.Yteajlffchdbkjaa.Sp
open Go.RowKit
set_option linter.unusedVariables false

/-- Off ok's blocks all lies as it lay. -/
def Off (ok : Nat → Prop) (w w' : World) : Prop := w.heap.size ≤ w'.heap.size ∧ ∀ b, b < w.heap.size → ¬ ok b → w'.heap[b]? = w.heap[b]?
theorem Off.refl (ok : Nat → Prop) (w : World) : Off ok w w := ⟨Nat.le_refl _, fun _ _ _ => rfl⟩
theorem Off.trans {ok : Nat → Prop} {a b c : World} (h : Off ok a b) (k : Off ok b c) : Off ok a c := ⟨Nat.le_trans h.1 k.1, fun i hi hn => (k.2 i (Nat.lt_of_lt_of_le hi h.1) hn).trans (h.2 i hi hn)⟩
theorem Off.below {ok : Nat → Prop} {w w' : World} (h : Below w.heap.size w w') : Off ok w w' := ⟨h.size, fun b hb _ => h.block b hb⟩
theorem Off.grown {ok : Nat → Prop} {a b : World} {row : Option Nat} (hg : a.grownBy b row) (hr : ∀ k, row = some k → ok k) : Off ok a b := ⟨hg.size, fun i hi hn => hg.block i hi (fun e => hn (hr i e.symm))⟩
theorem Off.set {ok : Nat → Prop} (w : World) {p : Addr} (hp : ok p.block) (v : Value) : Off ok w (w.setCell p v) :=
  ⟨by simp [World.setCell], fun b _ hn => Below.heap_setCell _ _ _ _ (fun e => hn (e ▸ hp))⟩
theorem Off.mono {ok ok' : Nat → Prop} {w w' : World} (h : Off ok w w') (ho : ∀ k, ok k → k < w.heap.size → ok' k) : Off ok' w w' := ⟨h.1, fun b hb hn => h.2 b hb (fun h1 => hn (ho b h1 hb))⟩

/-- A kind of object: what is said of it, of a world and of the blocks that are its own; it stays so where those blocks stay. -/
structure Ob where
  P : World → (Nat → Prop) → Prop
  step : ∀ {w w1 : World} {ok : Nat → Prop}, P w ok → (∀ k, ok k → k < w.heap.size → w1.heap[k]? = w.heap[k]?) → P w1 ok
/-- The objects lie side by side; none has a block of av's. -/
def Sep (w : World) : List Ob → (Nat → Prop) → Prop
  | [], av => ∀ k, av k → k < w.heap.size
  | X :: Xs, av => ∃ ok, X.P w ok ∧ (∀ k, ok k → k < w.heap.size) ∧ (∀ k, av k → ¬ ok k) ∧ Sep w Xs (fun k => av k ∨ ok k)
theorem Sep.sub {w : World} : ∀ {Xs : List Ob} {av av' : Nat → Prop}, Sep w Xs av → (∀ k, av' k → av k) → Sep w Xs av'
  | [], av, av', h, hs => fun k hk => h k (hs k hk)
  | X :: Xs, av, av', ⟨ok, h1, h2, h3, h4⟩, hs => ⟨ok, h1, h2, fun k hk => h3 k (hs k hk), h4.sub (fun k hk => hk.imp (hs k) id)⟩
theorem Sep.lt {w : World} : ∀ {Xs : List Ob} {av : Nat → Prop}, Sep w Xs av → ∀ k, av k → k < w.heap.size
  | [], av, h => h
  | X :: Xs, av, ⟨ok, h1, h2, h3, h4⟩ => fun k hk => h4.lt k (.inl hk)
theorem Sep.swap {w : World} {X Y : Ob} {Xs : List Ob} {av : Nat → Prop} (h : Sep w (X :: Y :: Xs) av) : Sep w (Y :: X :: Xs) av := by
  obtain ⟨ok, h1, h2, h3, ok', k1, k2, k3, k4⟩ := h
  exact ⟨ok', k1, k2, fun k hk => k3 k (.inl hk), ok, h1, h2, fun k hk => hk.elim (h3 k) (fun a b => k3 k (.inr b) a), k4.sub (fun k hk => by rcases hk with (a | a) | a <;> simp [a])⟩
/-- What is taken away, and laid back with av's of one's own. -/
theorem Sep.tail {w : World} {X : Ob} {Xs : List Ob} {av : Nat → Prop} (h : Sep w (X :: Xs) av) : Sep w Xs av := by
  obtain ⟨ok, _, _, _, h4⟩ := h
  exact h4.sub (fun k hk => .inl hk)
/-- All of them stay where all blocks but fresh ones stay. -/
theorem Sep.off {w w1 : World} (o : Nat → Prop) : ∀ {Xs : List Ob} {av : Nat → Prop}, Sep w Xs (fun k => av k ∨ (o k ∧ k < w.heap.size)) → Off o w w1 → Sep w1 Xs (fun k => av k ∨ (o k ∧ k < w.heap.size) ∨ (w.heap.size ≤ k ∧ k < w1.heap.size))
  | [], av, h, ho => fun k hk => by
    rcases hk with a | a | a
    · exact Nat.lt_of_lt_of_le (h k (.inl a)) ho.1
    · exact Nat.lt_of_lt_of_le a.2 ho.1
    · exact a.2
  | X :: Xs, av, ⟨ok, h1, h2, h3, h4⟩, ho => by
    refine ⟨ok, X.step h1 (fun k hk hlt => ho.2 k hlt (fun e => h3 k (.inr ⟨e, hlt⟩) hk)), fun k hk => Nat.lt_of_lt_of_le (h2 k hk) ho.1, fun k hk => ?_, ?_⟩
    · rcases hk with a | a | a
      · exact h3 k (.inl a)
      · exact h3 k (.inr a)
      · exact fun e => by have := h2 k e; omega
    · have h5 := Sep.off o (Xs := Xs) (av := fun k => av k ∨ ok k) (h4.sub (fun k hk => by rcases hk with (a | a) | a <;> simp [a])) ho
      exact h5.sub (fun k hk => by rcases hk with (a | a | a) | a <;> simp [a])
theorem Sep.step {w w1 : World} {Xs : List Ob} {av : Nat → Prop} (h : Sep w Xs av) (hb : Below w.heap.size w w1) : Sep w1 Xs (fun k => av k ∨ (w.heap.size ≤ k ∧ k < w1.heap.size)) :=
  (Sep.off (fun _ => False) (h.sub (fun k hk => hk.elim id (fun a => a.1.elim))) (Off.below hb)).sub (fun k hk => hk.imp id .inr)
theorem Sep.step' {w w1 : World} {Xs : List Ob} {av : Nat → Prop} (h : Sep w Xs av) (hb : Below w.heap.size w w1) : Sep w1 Xs av := (h.step hb).sub (fun k hk => .inl hk)
/-- The first is turned: its new blocks are fresh. -/
theorem Sep.turn {w w1 : World} {X X' : Ob} {Xs : List Ob} {av : Nat → Prop} (h : Sep w (X :: Xs) av)
    (hc : ∀ ok, X.P w ok → (∀ k, ok k → k < w.heap.size) → ∃ ok', X'.P w1 ok' ∧ (∀ k, ok' k → ok k ∨ w.heap.size ≤ k) ∧ (∀ k, ok' k → k < w1.heap.size) ∧ Off ok w w1) : Sep w1 (X' :: Xs) av ∧ ∀ b, av b → w1.heap[b]? = w.heap[b]? := by
  obtain ⟨ok, h1, h2, h3, h4⟩ := h
  obtain ⟨ok', k1, k2, k3, k4⟩ := hc ok h1 h2
  refine ⟨⟨ok', k1, k3, fun k hk e => ?_, ?_⟩, fun b hb => k4.2 b (h4.lt b (.inl hb)) (h3 b hb)⟩
  · rcases k2 k e with a | a
    · exact h3 k hk a
    · have := h4.lt k (.inl hk); omega
  · refine (Sep.off ok (av := av) (h4.sub (fun k hk => hk.imp id (fun a => a.1))) k4).sub (fun k hk => ?_)
    rcases hk with a | a
    · exact .inl a
    · rcases k2 k a with b | b
      · exact .inr (.inl ⟨b, h2 k b⟩)
      · exact .inr (.inr ⟨b, k3 k a⟩)
/-- One more, of fresh blocks. -/
theorem Sep.more {w w1 : World} {X : Ob} {Xs : List Ob} {av : Nat → Prop} (h : Sep w Xs av) (hb : Below w.heap.size w w1) (hX : ∃ ok, X.P w1 ok ∧ ∀ k, ok k → w.heap.size ≤ k ∧ k < w1.heap.size) : Sep w1 (X :: Xs) av := by
  obtain ⟨ok, h1, h2⟩ := hX
  refine ⟨ok, h1, fun k hk => (h2 k hk).2, fun k hk e => ?_, (h.step hb).sub (fun k hk => hk.imp id (fun a => h2 k a))⟩
  have := (h2 k e).1
  have := h.lt k hk
  omega
/-- What the first says. -/
theorem Sep.head {w : World} {X : Ob} {Xs : List Ob} {av : Nat → Prop} (h : Sep w (X :: Xs) av) : ∃ ok, X.P w ok := by
  obtain ⟨ok, h1, _⟩ := h
  exact ⟨ok, h1⟩
end Go.Proofs.Yteajlffchdbkjaa.Sp
namespace Go.Proofs.Yteajlffchdbkjaa.Sp
open Go.RowKit
set_option linter.unusedVariables false
/-- The first is turned: its new blocks are fresh. -/
theorem Sep.turned {w w1 : World} {X X' : Ob} {Xs : List Ob} {av ok ok' : Nat → Prop} (h2 : ∀ k, ok k → k < w.heap.size) (h3 : ∀ k, av k → ¬ ok k) (h4 : Sep w Xs (fun k => av k ∨ ok k))
    (k1 : X'.P w1 ok') (k2 : ∀ k, ok' k → ok k ∨ w.heap.size ≤ k) (k3 : ∀ k, ok' k → k < w1.heap.size) (k4 : Off (fun k => ok k ∨ w.heap.size ≤ k) w w1) : Sep w1 (X' :: Xs) av ∧ ∀ b, av b → w1.heap[b]? = w.heap[b]? := by
  have k5 : Off ok w w1 := k4.mono (fun k hk hlt => hk.elim id (fun a => by omega))
  refine ⟨⟨ok', k1, k3, fun k hk e => ?_, ?_⟩, fun b hb => k5.2 b (h4.lt b (.inl hb)) (h3 b hb)⟩
  · rcases k2 k e with a | a
    · exact h3 k hk a
    · have := h4.lt k (.inl hk); omega
  · refine (Sep.off ok (av := av) (h4.sub (fun k hk => hk.imp id (fun a => a.1))) k5).sub (fun k hk => ?_)
    rcases hk with a | a
    · exact .inl a
    · rcases k2 k a with b | b
      · exact .inr (.inl ⟨b, h2 k b⟩)
      · exact .inr (.inr ⟨b, k3 k a⟩)
/-- The first is turned on its own blocks; all that is fresh may be taken. -/
theorem Sep.kept {w w1 : World} {X X' : Ob} {Xs : List Ob} {av ok : Nat → Prop} (h2 : ∀ k, ok k → k < w.heap.size) (h3 : ∀ k, av k → ¬ ok k) (h4 : Sep w Xs (fun k => av k ∨ ok k))
    (k1 : X'.P w1 ok) (k4 : Off ok w w1) : Sep w1 (X' :: Xs) (fun k => av k ∨ (w.heap.size ≤ k ∧ k < w1.heap.size)) ∧ ∀ b, av b → w1.heap[b]? = w.heap[b]? := by
  refine ⟨⟨ok, k1, fun k hk => Nat.lt_of_lt_of_le (h2 k hk) k4.1, fun k hk e => ?_, ?_⟩, fun b hb => k4.2 b (h4.lt b (.inl hb)) (h3 b hb)⟩
  · rcases hk with a | a
    · exact h3 k a e
    · have := h2 k e; omega
  · refine (Sep.off ok (av := av) (h4.sub (fun k hk => hk.imp id (fun a => a.1))) k4).sub (fun k hk => ?_)
    rcases hk with (a | a) | a
    · exact .inl a
    · exact .inr (.inr a)
    · exact .inr (.inl ⟨a, h2 k a⟩)
theorem Sep.drawn {w : World} {Xs : List Ob} {av : Nat → Prop} (h : Sep w Xs av) (n : Nat) : Sep (w.drewN n) Xs av := h.step' ⟨rfl, rfl, rfl, Nat.le_refl _, fun _ _ => rfl⟩
theorem Sep.third {w : World} {X Y Z : Ob} {Xs : List Ob} {av : Nat → Prop} (h : Sep w (X :: Y :: Z :: Xs) av) : Sep w (Z :: X :: Y :: Xs) av := by
  obtain ⟨ok, h1, h2, h3, h4⟩ := h
  exact Sep.swap ⟨ok, h1, h2, h3, Sep.swap h4⟩
theorem Sep.back {w : World} {X Y Z : Ob} {Xs : List Ob} {av : Nat → Prop} (h : Sep w (Z :: X :: Y :: Xs) av) : Sep w (X :: Y :: Z :: Xs) av := by
  obtain ⟨ok, h1, h2, h3, h4⟩ := Sep.swap h
  exact ⟨ok, h1, h2, h3, Sep.swap h4⟩
theorem Sep.fourth {w : World} {X Y Z V : Ob} {Xs : List Ob} {av : Nat → Prop} (h : Sep w (X :: Y :: Z :: V :: Xs) av) : Sep w (V :: X :: Y :: Z :: Xs) av := by
  obtain ⟨ok, h1, h2, h3, h4⟩ := h
  exact Sep.swap ⟨ok, h1, h2, h3, Sep.third h4⟩
theorem Sep.back4 {w : World} {X Y Z V : Ob} {Xs : List Ob} {av : Nat → Prop} (h : Sep w (V :: X :: Y :: Z :: Xs) av) : Sep w (X :: Y :: Z :: V :: Xs) av := by
  obtain ⟨ok, h1, h2, h3, h4⟩ := Sep.swap h
  exact ⟨ok, h1, h2, h3, Sep.back h4⟩
/-- The first takes blocks of av's. -/
theorem Sep.taken {w w1 : World} {X X' : Ob} {Xs : List Ob} {av ok ok' : Nat → Prop} (h2 : ∀ k, ok k → k < w.heap.size) (h4 : Sep w Xs (fun k => av k ∨ ok k))
    (k1 : X'.P w1 ok') (k2 : ∀ k, ok' k → av k ∨ ok k ∨ w.heap.size ≤ k) (k3 : ∀ k, ok' k → k < w1.heap.size) (k4 : Off (fun k => ok k ∨ w.heap.size ≤ k) w w1) : Sep w1 (X' :: Xs) (fun _ => False) := by
  have k5 : Off ok w w1 := k4.mono (fun k hk hlt => hk.elim id (fun a => by omega))
  refine ⟨ok', k1, k3, fun k hk e => hk.elim, ?_⟩
  refine (Sep.off ok (av := av) (h4.sub (fun k hk => hk.imp id (fun a => a.1))) k5).sub (fun k hk => ?_)
  rcases hk with a | a
  · exact a.elim
  · rcases k2 k a with b | b | b
    · exact .inl b
    · exact .inr (.inl ⟨b, h2 k b⟩)
    · exact .inr (.inr ⟨b, k3 k a⟩)
theorem Off.drew {ok : Nat → Prop} {w w' : World} (h : Off ok w w') : Off ok w w'.drew := h
theorem Off.later {ok : Nat → Prop} {w y : World} (h : Off ok w y) {p : Addr} (hp : w.heap.size ≤ p.block) (v : Value) : Off ok w (y.setCell p v) :=
  ⟨by have := h.1; simp [World.setCell]; omega, fun b hb hn => (Below.heap_setCell _ _ _ _ (by omega)).trans (h.2 b hb hn)⟩
end Go.Proofs.Yteajlffchdbkjaa.Sp
namespace Go.Proofs.Yteajlffchdbkjaa.By
open Go.RowKit Go.Proofs.Yteajlffchdbkjaa.Sp Go.Proofs.Yteajlffchdbkjaa.H Go.Proofs.Yteajlffchdbkjaa.Uv Go.Proofs.Yteajlffchdbkjaa.Fr Go.Proofs.YteajlffchdbkjaaW.PrintWords Go.Proofs.YteajlffchdbkjaaW.PrintLast Go.Proofs.YteajlffchdbkjaaW.PrintMore
set_option linter.unusedVariables false
set_option linter.unusedSimpArgs false
theorem i64_of {x : Int} (h : -9223372036854775808 ≤ x ∧ x ≤ 9223372036854775807) : IntKind.i64.wrap x = x := IntWalk.i64_in _ (by omega)
theorem u64_of {x : Int} (h : 0 ≤ x ∧ x ≤ 18446744073709551615) : IntKind.u64.wrap x = x := IntWalk.u64_in _ (by omega)
theorem info8 : (Try.prog.info? 5).map (fun i => (i.zero, i.size, i.bytes)) = some (some (.int .u8 0), 1, 1) := by kernel_rfl
theorem cell_of_C {k : IntKind} {w : World} {A : Option Addr} {n : Nat} {xs : List Int} (h : (Kd.int k).C w A n xs) (i : Nat) (h1 : i < xs.length) (hn : n = xs.length) : ∃ ad, A = some ad ∧ w.cell? (ad.add i) = some (.int k xs[i]) := by
  obtain ⟨ad, e, hx⟩ := Kd.at_int h (i : Int) (by omega) (by omega)
  have rx : rd xs (i : Int) = xs[i] := by simp [rd, h1]
  rw [rx, Int.toNat_natCast] at hx
  exact ⟨ad, e, hx⟩
theorem below_drN {B : Nat} {a w : World} (h : Below B a w) (n : Nat) : Below B a (w.drewN n) := h.trans ⟨rfl, rfl, rfl, Nat.le_refl _, fun _ _ => rfl⟩
theorem cell_cellsN {w : World} {g t : Nat} {cs : Array Value} (h : w.heap[g]? = some (.cells cs t (0, 0))) (j : Nat) (hj : j < cs.size) : w.cell? ⟨g, j, none⟩ = some cs[j] := by unfold World.cell?; rw [h]; simp [hj]
theorem frozen_cellsN {w : World} {g t : Nat} {cs : Array Value} (h : w.heap[g]? = some (.cells cs t (0, 0))) (j : Nat) : w.frozen? ⟨g, j, none⟩ = false := by unfold World.frozen?; rw [h]; simp
theorem new_cellsN (w : World) (t : TypeId) (cs : Array Value) : (w.alloc (.cells cs t)).heap[w.heap.size]? = some (.cells cs t (0, 0)) := (MapKept.heap_alloc w (.cells cs t)).1
theorem R_own {d : Kd Int} {e : Nat} {w : World} {base : Nat} {v : Value} {xs : List Int} (h : d.R e w base (fun _ => True) v xs) : d.R e w base (fun k => base ≤ k ∧ k < w.heap.size) v xs := Kd.R_mono (Kd.R_bound h) (fun k hk => ⟨hk.2.1, hk.2.2.1⟩)
/-! ### append to a row that is full -/
theorem cells_C {w : World} {A : Option Addr} {n : Nat} {xs : List Int} (h : (Kd.int .u8).C w A n xs) (hn : 0 < n) : ∃ ad, A = some ad ∧ ∀ j u, (xs.map (Value.int .u8))[j]? = some u → w.cell? (ad.add j) = some u := by
  have hl : xs.length = n := h.1
  obtain ⟨ad, e, _⟩ := cell_of_C h 0 (by omega) hl.symm
  refine ⟨ad, e, fun j u hu => ?_⟩
  rw [List.getElem?_map] at hu
  obtain ⟨x, hx, rfl⟩ := Option.map_eq_some_iff.1 hu
  obtain ⟨hj, rfl⟩ := List.getElem?_eq_some_iff.1 hx
  obtain ⟨ad', e', hc⟩ := cell_of_C h j hj hl.symm
  rw [e] at e'
  injection e' with e'
  rw [e']
  exact hc
theorem run_append_full (w : World) (ty : TypeId) (xs ys : List Int) (ad : Addr) (A : Option Addr) (m c : Nat) (HX : (Kd.int .u8).C w (some ad) xs.length xs) (HY : (Kd.int .u8).C w A m ys) (hx0 : 0 < xs.length) (hm : 0 < m) (hl : xs.length + m ≤ 1000000000) :
    ∃ v1 w1, (Builtin.append_ #[36, 36] ty #[.slice (some ad) xs.length xs.length, .slice A m c]).run Try.prog w = .ok v1 w1 ∧ (Kd.int .u8).R 5 w1 w.heap.size (fun _ => True) v1 (xs ++ ys) ∧ Below w.heap.size w w1 := by
  obtain ⟨i, hi, hz0, hs, hb⟩ := info_parts info8
  obtain ⟨ad0, e0, hox⟩ := cells_C HX hx0
  injection e0 with e0
  subst e0
  obtain ⟨ad2, rfl, hoy⟩ := cells_C HY hm
  have hyl : ys.length = m := HY.1
  have hr := run_append_grow (P := Try.prog) w 36 ty 5 i (.int .u8 0) Try.underlying36 hi hz0 ad xs.length xs.length (xs.map (Value.int .u8)) (by rw [List.length_map, hs, Nat.mul_one]) hox ad2 m c (ys.map (Value.int .u8)) (by rw [List.length_map, hs, Nat.mul_one, hyl]) hoy (by omega) (by omega) (growslice_fits (by omega) (by rw [hb]; omega))
  have hge := grownCap_ge w (xs.length + m) xs.length 5
  have hcm : grownCap w (xs.length + m) xs.length 5 ≤ maxLen := grownCap_le_maxLen w (xs.length + m) xs.length 5 (by unfold maxLen; omega)
  refine ⟨_, _, hr, ?_, ⟨rfl, rfl, rfl, by simp, fun k hk => heap_alloc_old w.drew _ hk⟩⟩
  refine Kd.R_of_own (enc := Value.int .u8) (h1 := fun _ => rfl) ?_ (fun _ _ => trivial)
  have he : encs (Value.int .u8) (xs ++ ys) = xs.map (Value.int .u8) ++ ys.map (Value.int .u8) := by unfold encs; rw [List.map_append]
  rw [he]
  refine ⟨by rw [List.length_append, List.length_map, List.length_map, List.length_append, Nat.mul_one], .inr ⟨w.heap.size, _, _, by rw [List.length_append, hyl], Nat.le_refl _, heap_alloc_new w.drew _, by rw [List.length_append, hyl]; exact hge, hcm, ?_, ?_⟩⟩
  · simp only [Array.size_append, List.size_toArray, size_zeroCells, List.length_map, hyl, Value.cells, Nat.mul_one]
    show xs.length + m + (grownCap w (xs.length + m) xs.length 5 - (xs.length + m)) * 1 = _
    omega
  · have hl2 : (xs ++ ys).length * 1 = (xs.map (Value.int .u8) ++ ys.map (Value.int .u8)).length := by rw [List.length_append, List.length_append, List.length_map, List.length_map, Nat.mul_one]
    rw [hl2]
    simp only [Array.toList_append, List.append_assoc]
    rw [← List.append_assoc]
    exact List.take_left
/-- A row that an append may begin with: one's own, or one that is full. -/
def Apd (w : World) (base : Nat) (v : Value) (xs : List Int) : Prop := (Kd.int .u8).R 5 w base (fun _ => True) v xs ∨ (∃ ad, v = .slice (some ad) xs.length xs.length ∧ (Kd.int .u8).C w (some ad) xs.length xs ∧ 0 < xs.length)
theorem Apd.below {w w1 : World} {base : Nat} {v : Value} {xs : List Int} (h : Apd w base v xs) (hb : Below w.heap.size w w1) : Apd w1 base v xs := by
  rcases h with h | ⟨ad, h1, h2, h3⟩
  · exact .inl (Kd.R_below h hb)
  · exact .inr ⟨ad, h1, Kd.C_below h2 hb, h3⟩
theorem Apd.val {w : World} {base : Nat} {v : Value} {xs : List Int} (h : Apd w base v xs) : ∃ A c, v = .slice A xs.length c ∧ xs.length ≤ c ∧ (Kd.int .u8).C w A xs.length xs := by
  rcases h with h | ⟨ad, h1, h2, h3⟩
  · exact Kd.R_reads h
  · exact ⟨some ad, _, h1, Nat.le_refl _, h2⟩
section
variable {ops : Array Oper} {rest : List Oper} {o : Oper} {a : Act} {Q : Exit → Act → World → Prop}
theorem append_apd {w0 W : World} (base : Nat) (hgd : o.guard = none) (s x : Operand) (ho : o.op = .call { callee := .builtin .append, args := #[s, x], argTypes := #[36, 36] })
    (v : Value) (xs ys : List Int) (A : Option Addr) (m c : Nat) (hs : a.eval s = v) (hx : a.eval x = .slice A m c) (HO : Apd W base v xs) (HY : (Kd.int .u8).C W A m ys) (hm : 0 < m) (HB : Below base w0 W) (hbase : base ≤ W.heap.size) (hl : xs.length + m ≤ 1000000000)
    (h : ∀ v1 w1, (Kd.int .u8).R 5 w1 base (fun _ => True) v1 (xs ++ ys) → Below base w0 w1 → wpList Try.prog ops Q rest (a.put o.dst v1) w1) : wpList Try.prog ops Q (o :: rest) a W := by
  rcases HO with HO | ⟨ad, rfl, HC, h0⟩
  · refine Kd.R_append_row (Value.int .u8) (0 : Int) (w0 := w0) base hgd s x 36 5 (.int .u8 0) 1 ho Try.underlying36 info8 rfl (by omega) v xs ys A m c (fun _ => True) hs hx (fun _ _ => trivial) HO HY HB hbase (by omega) ?_
    intro v1 w1 h1 h2 _ _
    exact h v1 w1 h1 h2
  · obtain ⟨v1, w1, hr, hR, hb⟩ := run_append_full W o.type xs ys ad A m c HC HY h0 hm hl
    refine wpList_plain hgd fun K' hK' => ?_
    unfold Oper.wp execOp
    simp only [ho, resolve, invoke, builtin, Sem.run_bind, Sem.run_pure, Result.andThen_ok, List.map_toArray, List.map_cons, List.map_nil, hs, hx, hr]
    exact hK' _ _ (h v1 w1 (Kd.R_lower hR hbase) (HB.trans (hb.mono hbase)))
end
end Go.Proofs.Yteajlffchdbkjaa.By
namespace Go.Proofs.Yteajlffchdbkjaa.By
open Go.RowKit Go.Proofs.Yteajlffchdbkjaa.Sp Go.Proofs.Yteajlffchdbkjaa.H Go.Proofs.Yteajlffchdbkjaa.Uv Go.Proofs.Yteajlffchdbkjaa.Fr Go.Proofs.YteajlffchdbkjaaW.PrintWords Go.Proofs.YteajlffchdbkjaaW.PrintLast Go.Proofs.YteajlffchdbkjaaW.PrintMore
set_option linter.unusedVariables false
set_option linter.unusedSimpArgs false
theorem uput_calls (w : World) (v : Int) (h0 : 0 ≤ v) (h1 : v ≤ 18446744073709551615) : Calls Try.prog 48 #[.int .u64 v] w fun e w' => ∃ v0, e = .returned v0 ∧ (Kd.int .u8).R 5 w' w.heap.size (fun _ => True) v0 (putI v) ∧ Below w.heap.size w w' := by
  obtain ⟨k, hk⟩ := (put_yes v h0 h1).rounds
  exact uvar_Put.calls k v _ w hk
theorem uget_calls (w : World) (A : Option Addr) (c : Nat) (l : List Int) (hr : (Kd.int .u8).C w A l.length l) (hc : l.length ≤ c) (hb : Bytes l) : Calls Try.prog 50 #[.slice A l.length c] w fun e w' => e = .returned (.tuple #[.int .u64 (getI l).1, .int .i64 (getI l).2.1, .int .i64 (getI l).2.2]) ∧ Below w.heap.size w w' := by
  obtain ⟨k, hk⟩ := (get_yes l hb).rounds
  exact uvar_Get.calls k A c l _ _ _ w hr hc hk
def frameI (row : List Int) : List Int := putI row.length ++ row
theorem fput_calls (w : World) (A : Option Addr) (c : Nat) (l : List Int) (hr : (Kd.int .u8).C w A l.length l) (hc : l.length ≤ c) (hl : l.length ≤ 1200) : Calls Try.prog 47 #[.slice A l.length c] w fun e w' => ∃ v0, e = .returned (.tuple #[v0, .int .i64 0]) ∧ (Kd.int .u8).R 5 w' w.heap.size (fun _ => True) v0 (frameI l) ∧ Below w.heap.size w w' := by
  obtain ⟨k, hk⟩ := (fput_yes l hl).rounds
  exact frame_Put.calls k A c l _ _ w hr hc hk
theorem fget_calls (w : World) (A : Option Addr) (c : Nat) (l : List Int) (hr : (Kd.int .u8).C w A l.length l) (hc : l.length ≤ c) (hb : Bytes l) (hl : l.length ≤ 1000000000) : Calls Try.prog 49 #[.slice A l.length c] w fun e w' => ∃ v0, e = .returned (.tuple #[v0, .int .i64 (getF l).2.1, .int .i64 (getF l).2.2]) ∧ (Kd.int .u8).R 5 w' w.heap.size (fun _ => True) v0 (getF l).1 ∧ Below w.heap.size w w' := by
  obtain ⟨k, hk⟩ := (fget_yes l hb hl).rounds
  exact frame_Get.calls k A c l _ _ _ w hr hc hk
/-! ### a voucher's text -/
def markL : List Int := [118, 99, 104]
def textL (nums : List Int) : List Int := markL ++ nums.flatMap putI
theorem putI_pos {v : Int} (h : v ≤ 9223372036854775807) : 0 < (putI v).length := by
  unfold putI
  rw [if_pos h]
  exact List.length_pos_iff.2 (enc_ne _ _)
theorem textL_len (nums : List Int) : (textL nums).length ≤ 3 + 9 * nums.length := by
  unfold textL
  rw [List.length_append]
  have h : (nums.flatMap putI).length ≤ 9 * nums.length := by
    induction nums with
    | nil => simp
    | cons x xs ih =>
      rw [List.flatMap_cons, List.length_append, List.length_cons]
      have := putI_len_le x
      omega
  have : markL.length = 3 := rfl
  omega
theorem textL_snoc (nums : List Int) (i : Nat) (h : i < nums.length) : textL (nums.take (i + 1)) = textL (nums.take i) ++ putI nums[i] := by
  unfold textL
  rw [List.take_succ_eq_append_getElem h, List.flatMap_append, ← List.append_assoc]
  simp
theorem textL_bytes {nums : List Int} (h : ∀ x ∈ nums, 0 ≤ x) : Bytes (textL nums) := by
  unfold textL
  refine Bytes.app (by unfold Bytes markL; decide) (fun y hy => ?_)
  obtain ⟨x, hx, hyx⟩ := List.mem_flatMap.1 hy
  exact putI_bytes x (h x hx) y hyx
theorem mark_C (w : World) (c : Nat) : (Kd.int .u8).C (w.alloc (.cells #[.int .u8 118, .int .u8 99, .int .u8 104] 5 (3, c))) (some ⟨w.heap.size, 0, none⟩) 3 markL := Kd.C_of_reads (d := (0 : Int)) (h1 := fun _ => rfl) ⟨rfl, by decide, fun _ => ⟨_, rfl, fun j hj => by
      rw [Addr.add_lit, World.cell?_alloc_mark]
      match j, hj with
      | 0, _ => rfl
      | 1, _ => rfl
      | 2, _ => rfl⟩⟩
theorem below_mark (w : World) : Below w.heap.size w (w.alloc (.cells #[.int .u8 118, .int .u8 99, .int .u8 104] 5 (3, 4))) := (Below.refl _ w).alloc (Nat.le_refl _) _
set_option maxRecDepth 100000 in
set_option maxHeartbeats 2000000 in
theorem text_calls (w : World) (A : Option Addr) (c : Nat) (nums : List Int) (hr : Kd.C (Kd.int .i64) w A nums.length nums) (hc : nums.length ≤ c) (hn : ∀ x ∈ nums, 0 ≤ x ∧ x ≤ 9223372036854775807) (h0 : 0 < nums.length) (hl : nums.length ≤ 1000) :
    Calls Try.prog 31 #[.slice A nums.length c] w fun e w' => ∃ v, e = .returned v ∧ (Kd.int .u8).R 5 w' w.heap.size (fun _ => True) v (textL nums) ∧ Below w.heap.size w w' := by
  have HR := Lib.hid hr
  have HN := Lib.hid hn
  clear hr hn
  have qc : ∀ (w : World), _ := fun w => Lib.run_convert_bytes_const (P := Try.prog) w 36 5 #[.int .u8 118, .int .u8 99, .int .u8 104] 3 3 Try.underlying36 Try.underlying5
  obtain ⟨W, hW⟩ : ∃ W, w.alloc (.cells #[.int .u8 118, .int .u8 99, .int .u8 104] 5 (3, 4)) = W := ⟨_, rfl⟩
  have HC0 := Lib.hid (show (Kd.int .u8).C W (some ⟨w.heap.size, 0, none⟩) 3 markL from by rw [← hW]; exact mark_C w 4)
  have HBW := Lib.hid (show Below w.heap.size w W from by rw [← hW]; exact below_mark w)
  go_enter Try.func31, Try.ntmps31
  go_upto_region 2 with fail
  clear hW qc
  go_wp2
  go_loopg [3, 10] (nums.length : Nat) (fun kq v3 v10 wr => ∃ i : Nat, v10 = .int .i64 i ∧ i + kq = nums.length ∧ Hid (Apd wr w.heap.size v3 (textL (nums.take i))) ∧ Hid (Below w.heap.size w wr) ∧ Hid (0 < i → (Kd.int .u8).R 5 wr w.heap.size (fun _ => True) v3 (textL (nums.take i))))
  case atStart => exact ⟨0, rfl, by omega, Lib.hid (.inr ⟨_, rfl, by rw [List.take_zero]; exact HC0.out, by rw [List.take_zero]; decide⟩), HBW, Lib.hid (fun h => absurd h (Nat.lt_irrefl 0))⟩
  case round =>
    obtain ⟨i, rfl, hik, HA, HB, HP⟩ := hrel
    have hws := HB.out.size
    by_cases hlt : i < nums.length
    · have b0 : decide ((i : Int) < (nums.length : Int)) = true := decide_eq_true (by omega)
      have b1 : (i : Int) < (nums.length : Int) := by omega
      obtain ⟨ad, rfl, hcell⟩ := cell_of_C (Kd.C_below HR.out HB.out) i hlt rfl
      obtain ⟨x, hx⟩ : ∃ x, nums[i] = x := ⟨_, rfl⟩
      have hxb := HN.out x (by rw [← hx]; exact List.getElem_mem hlt)
      have HT := Lib.hid (by rw [textL_snoc nums i hlt, hx] : textL (nums.take (i + 1)) = textL (nums.take i) ++ putI x)
      have hpos := putI_pos hxb.2
      have hlen := textL_len (nums.take i)
      have hti : (nums.take i).length ≤ nums.length := List.length_take_le' _ _
      have hpl := putI_len_le x
      rw [hx] at hcell
      have ex : x % 18446744073709551616 = x := by omega
      obtain ⟨A3, c3, hv3, _, _⟩ := HA.out.val
      obtain ⟨m3, hm3⟩ : ∃ m, (textL (nums.take i)).length = m := ⟨_, rfl⟩
      rw [hm3] at hv3
      subst hv3
      have HM3 := Lib.hid hm3
      clear hx hm3
      go_wp2_with (first
        | (go_at_call 48; refine (uput_calls wr x hxb.1 (by omega)).mono ?_; rintro e w5 ⟨v5, rfl, hR5, hb5⟩; obtain ⟨A5, c5, hv5, hc5, hC5⟩ := Kd.R_reads hR5; obtain ⟨m5, hm5⟩ : ∃ m, (putI x).length = m := ⟨_, rfl⟩; rw [hm5] at hv5 hC5; subst hv5; have HA5 := Lib.hid (HA.out.below hb5); have HC5 := Lib.hid hC5; have HB5 := Lib.hid (HB.out.trans (hb5.mono hws)); have HM5 := Lib.hid hm5; clear hR5 hb5 hC5 hm5)
        | ((with_reducible refine gate_builtin (b := .append) (xs := #[.tmp 14, .tmp 17]) rfl ?_); at_builtin; refine append_apd (w0 := w) w.heap.size rfl (.tmp 14) (.tmp 17) rfl (.slice A3 m3 c3) (textL (nums.take i)) (putI x) A5 m5 c5 rfl rfl HA5.out HC5.out (by have := HM5.out; omega) HB5.out HB5.out.size (by have := HM5.out; omega) ?_; intro v6 w6 ho6 hb6; have HO6 := Lib.hid ho6; have HB6 := Lib.hid hb6; clear ho6 hb6))
      go_roundg (gk - 1)
      case measure => omega
      case rel => exact ⟨i + 1, by go_num, by omega, Lib.hid (.inl (by rw [HT.out]; exact HO6.out)), HB6, Lib.hid (fun _ => by rw [HT.out]; exact HO6.out)⟩
    · have b0 : decide ((i : Int) < (nums.length : Int)) = false := decide_eq_false (by omega)
      have hin : i = nums.length := by omega
      have HIN := Lib.hid hin
      clear hin
      go_wp2
      go_ret
      have h := HP.out (by omega)
      rw [HIN.out, List.take_length] at h
      exact ⟨_, rfl, h, HB.out⟩
end Go.Proofs.Yteajlffchdbkjaa.By
namespace Go.Proofs.Yteajlffchdbkjaa.By
open Go.RowKit Go.Proofs.Yteajlffchdbkjaa.Sp Go.Proofs.Yteajlffchdbkjaa.H Go.Proofs.Yteajlffchdbkjaa.Uv Go.Proofs.Yteajlffchdbkjaa.Fr Go.Proofs.YteajlffchdbkjaaW.PrintWords Go.Proofs.YteajlffchdbkjaaW.PrintLast Go.Proofs.YteajlffchdbkjaaW.PrintMore
set_option linter.unusedVariables false
set_option linter.unusedSimpArgs false
/-! ### plain -/
def mayF (r p u : Int) : Bool := decide (1 ≤ r) && (decide (r ≤ 2147483647) && (decide (1 ≤ p) && (decide (p ≤ 2147483647) && (!decide (r = p) && (decide (1 ≤ u) && decide (u ≤ 1099511627776))))))
theorem mayF_iff (r p u : Int) : mayF r p u = true ↔ (1 ≤ r ∧ r ≤ 2147483647 ∧ 1 ≤ p ∧ p ≤ 2147483647 ∧ r ≠ p ∧ 1 ≤ u ∧ u ≤ 1099511627776) := by simp [mayF]
theorem ite_yes {c : Prop} [Decidable c] (b : Bool) : (if c then some b else some false) = some (decide c && b) := by by_cases h : c <;> simp [h]
theorem ite_no {c : Prop} [Decidable c] (b : Bool) : (if c then some false else some b) = some (!decide c && b) := by by_cases h : c <;> simp [h]
theorem may_f (r p u : Int) : vouch_may.f r p u = some (mayF r p u) := by
  unfold vouch_may.f vouch_mayPeer.f mayF
  simp only [ge_iff_le, ite_yes, ite_no, Option.bind_some, Bool.decide_eq_true, Bool.and_assoc]
theorem textL_flat (nums : List Int) : textL nums = markL ++ flat nums := by unfold textL flat; rw [List.flatMap_def]
theorem textL_take (nums : List Int) : (textL nums).take 3 = markL := List.take_left (l₁ := markL)
theorem textL_drop (nums : List Int) : (textL nums).drop 3 = flat nums := by rw [textL_flat]; exact List.drop_left (l₁ := markL)
theorem textL_each {nums : List Int} (h : ∀ v ∈ nums, 0 ≤ v ∧ v ≤ 9223372036854775807) : (eachL ((textL nums).drop 3)).map Prod.snd = nums := by rw [textL_drop, eachL_flat nums h, posL_snd]
def vouchI (r p u tag : Int) : List Int := frameI (textL [r, p, u]) ++ putI tag
def Good (b : List Int) (r p u tag : Int) : Prop := mayF r p u = true ∧ 0 ≤ tag ∧ tag ≤ 9223372036854775807 ∧ b = vouchI r p u tag
theorem may_nums {r p u : Int} (h : mayF r p u = true) : ∀ v ∈ [r, p, u], 0 ≤ v ∧ v ≤ 9223372036854775807 := by
  have := (mayF_iff r p u).1 h
  intro v hv
  simp at hv
  rcases hv with rfl | rfl | rfl <;> omega
theorem text3_len (r p u : Int) : (textL [r, p, u]).length ≤ 30 := textL_len [r, p, u]
theorem good_F {b : List Int} {r p u tag : Int} (h : Good b r p u tag) : getF b = (textL [r, p, u], ((frameI (textL [r, p, u])).length : Int), 0) ∧ b.drop (frameI (textL [r, p, u])).length = putI tag := by
  have hl := text3_len r p u
  have h4 := h.2.2.2
  rw [h4]
  clear h4 h
  refine ⟨?_, List.drop_left⟩
  unfold vouchI frameI
  rw [List.append_assoc, getF_put _ _ (by omega), List.length_append]
  rfl
theorem good_each {b : List Int} {r p u tag : Int} (h : Good b r p u tag) : (eachL ((textL [r, p, u]).drop 3)).map Prod.snd = [r, p, u] := textL_each (may_nums h.1)
theorem good_tag {b : List Int} {r p u tag : Int} (h : Good b r p u tag) : getI (b.drop (frameI (textL [r, p, u])).length) = (tag, ((putI tag).length : Int), 0) := by
  rw [(good_F h).2]
  have := getI_put tag [] h.2.1 h.2.2.1
  rwa [List.append_nil] at this
theorem good_len {b : List Int} {r p u tag : Int} (h : Good b r p u tag) : b.length = (frameI (textL [r, p, u])).length + (putI tag).length := by rw [h.2.2.2]; exact List.length_append
theorem good_inj {b : List Int} {r p u tag r' p' u' tag' : Int} (h : Good b r p u tag) (k : Good b r' p' u' tag') : r = r' ∧ p = p' ∧ u = u' ∧ tag = tag' := by
  have e := (good_F h).1.symm.trans (good_F k).1
  have e1 : textL [r, p, u] = textL [r', p', u'] := congrArg Prod.fst e
  have e2 := good_each h
  rw [e1, good_each k] at e2
  have e3 := good_tag h
  rw [e1, good_tag k] at e3
  simp at e2 e3
  exact ⟨e2.1.symm, e2.2.1.symm, e2.2.2.symm, e3.1.symm⟩
open Classical in
noncomputable def readV (b : List Int) : Int × Int × Int × Int × Int := if h : ∃ x : Int × Int × Int × Int, Good b x.1 x.2.1 x.2.2.1 x.2.2.2 then (h.choose.1, h.choose.2.1, h.choose.2.2.1, h.choose.2.2.2, 0) else (0, 0, 0, 0, 3)
theorem readV_good {b : List Int} {r p u tag : Int} (h : Good b r p u tag) : readV b = (r, p, u, tag, 0) := by
  have hx : ∃ x : Int × Int × Int × Int, Good b x.1 x.2.1 x.2.2.1 x.2.2.2 := ⟨(r, p, u, tag), h⟩
  unfold readV
  rw [dif_pos hx]
  obtain ⟨e1, e2, e3, e4⟩ := good_inj hx.choose_spec h
  rw [e1, e2, e3, e4]
theorem readV_bad {b : List Int} (h : ∀ r p u tag, ¬ Good b r p u tag) : readV b = (0, 0, 0, 0, 3) := by
  unfold readV
  rw [dif_neg]
  rintro ⟨x, hx⟩
  exact h _ _ _ _ hx
theorem readV_cases (b : List Int) : (∃ r p u tag, Good b r p u tag ∧ readV b = (r, p, u, tag, 0)) ∨ ((∀ r p u tag, ¬ Good b r p u tag) ∧ readV b = (0, 0, 0, 0, 3)) := by
  by_cases h : ∃ r p u tag, Good b r p u tag
  · obtain ⟨r, p, u, tag, h⟩ := h
    exact .inl ⟨r, p, u, tag, h, readV_good h⟩
  · have h' : ∀ r p u tag, ¬ Good b r p u tag := fun r p u tag hg => h ⟨r, p, u, tag, hg⟩
    exact .inr ⟨h', readV_bad h'⟩
theorem getF_ok {b t : List Int} {k : Int} (hb : Bytes b) (h : getF b = (t, k, 0)) : 0 ≤ k ∧ b = frameI t ++ b.drop k.toNat ∧ k.toNat ≤ b.length ∧ t.length ≤ 1200 ∧ Bytes t := by
  have hin := getF_in hb (by rw [h])
  rw [h] at hin
  dsimp only at hin
  refine ⟨by omega, ?_, by omega, hin.2.2⟩
  by_cases h0 : (getI b).2.2 = 0
  · obtain ⟨h1, h2, h3, h4, h5⟩ := getI_in hb h0
    by_cases hv : 1200 < (getI b).1
    · rw [getF_long h0 hv] at h; cases h
    · by_cases hs : (b.length : Int) - (getI b).2.1 < (getI b).1
      · rw [getF_short h0 hv hs] at h; cases h
      · rw [getF_good h0 hv hs] at h
        obtain ⟨rfl, rfl, _⟩ := Prod.mk.inj h |>.imp id Prod.mk.inj
        obtain ⟨_, _, r, hr, hk⟩ := getI_ok b (getI b).1 (getI b).2.1 hb (by rw [← h0])
        have hlen : ((b.drop (getI b).2.1.toNat).take (getI b).1.toNat).length = (getI b).1.toNat := by rw [List.length_take, List.length_drop]; omega
        have e1 : (((b.drop (getI b).2.1.toNat).take (getI b).1.toNat).length : Int) = (getI b).1 := by rw [hlen]; omega
        unfold frameI
        rw [e1]
        obtain ⟨m, hm⟩ : ∃ m, (putI (getI b).1).length = m := ⟨_, rfl⟩
        have e2 : (getI b).2.1.toNat = m := by omega
        have e3 : ((getI b).2.1 + (getI b).1).toNat = m + (getI b).1.toNat := by omega
        have e4 : b.take m = putI (getI b).1 := by
          conv => lhs; rw [hr]
          rw [← hm, List.take_left]
        rw [e2, e3, ← List.drop_drop, List.append_assoc, List.take_append_drop, ← e4, List.take_append_drop]
  · rw [getF_bad h0] at h
    exact absurd (Prod.mk.inj (Prod.mk.inj h).2).2 h0
theorem good_of {b t : List Int} {k r p u tag n : Int} (hb : Bytes b) (h : getF b = (t, k, 0)) (hg : getI (b.drop k.toNat) = (tag, n, 0)) (hn : k + n = b.length) (ht : textL [r, p, u] = t) (hm : mayF r p u = true) : Good b r p u tag := by
  obtain ⟨h0, h1, h2, h3, h4⟩ := getF_ok hb h
  obtain ⟨g0, g1, rr, g2, g3⟩ := getI_ok _ tag n (hb.drop _) hg
  have hl : (b.drop k.toNat).length = (putI tag).length + rr.length := by rw [g2, List.length_append]
  rw [List.length_drop] at hl
  have : rr = [] := List.length_eq_zero_iff.1 (by omega)
  rw [this, List.append_nil] at g2
  exact ⟨hm, g0, g1, by rw [h1, g2, vouchI, ht]⟩
/-! ### contracts -/
theorem may_calls (w : World) (r p u : Int) : Calls Try.prog 45 #[.int .i64 r, .int .i64 p, .int .i64 u] w fun e w' => e = .returned (.bool (mayF r p u)) ∧ Drawn0 w w' := vouch_may.calls r p u _ w (may_f r p u)
theorem str_list {a b : List Int} (ha : Bytes a) (hb : Bytes b) : ((strOfNums a).toList == (strOfNums b).toList) = decide (a = b) := by
  have e : (strOfNums a).toList = (strOfNums b).toList ↔ a = b := by
    rw [Go.Lib.strOfNums_toList, Go.Lib.strOfNums_toList]
    refine ⟨fun h => ?_, fun h => by rw [h]⟩
    have h2 : a.map (fun n => UInt8.ofNat n.toNat) = b.map (fun n => UInt8.ofNat n.toNat) := h
    have hinj : ∀ (xs ys : List Int), Bytes xs → Bytes ys → xs.map (fun n => UInt8.ofNat n.toNat) = ys.map (fun n => UInt8.ofNat n.toNat) → xs = ys := by
      intro xs
      induction xs with
      | nil => intro ys _ _ h; cases ys with
        | nil => rfl
        | cons y ys => simp at h
      | cons x xs ih => intro ys hx hy h; cases ys with
        | nil => simp at h
        | cons y ys =>
          simp only [List.map_cons, List.cons.injEq] at h
          have h1 := hx x (by simp)
          have h2 := hy y (by simp)
          have h3 := congrArg UInt8.toNat h.1
          simp only [UInt8.toNat_ofNat'] at h3
          rw [ih ys (fun z hz => hx z (by simp [hz])) (fun z hz => hy z (by simp [hz])) h.2]
          congr 1
          omega
    exact hinj a b ha hb h2
  by_cases h : a = b
  · rw [decide_eq_true h, h]; simp
  · rw [decide_eq_false h]
    exact beq_eq_false_iff_ne.2 (fun hh => h (e.1 hh))
theorem equal_n (w : World) (A0 : Option Addr) (n0 c0 : Nat) (l0 : List Int) (A1 : Option Addr) (n1 c1 : Nat) (l1 : List Int) (h0 : n0 = l0.length) (h1 : n1 = l1.length) (b0 : Bytes l0) (b1 : Bytes l1) (hr0 : Kd.C (Kd.int .u8) w A0 n0 l0) (hc0 : n0 ≤ c0) (hr1 : Kd.C (Kd.int .u8) w A1 n1 l1) (hc1 : n1 ≤ c1) :
    Calls Try.prog 53 #[.slice A0 n0 c0, .slice A1 n1 c1] w fun e w' => e = .returned (.bool (decide (l0 = l1))) ∧ Drawn0 w w' := by
  subst h0 h1
  exact bytes_Equal.calls A0 c0 l0 A1 c1 l1 _ w hr0 hc0 hr1 hc1 (by unfold bytes_Equal.f; rw [str_list b0 b1])
theorem markB : Bytes markL := by unfold Bytes markL; decide
set_option maxRecDepth 100000 in
set_option maxHeartbeats 2000000 in
theorem prefix_calls (w : World) (A : Option Addr) (n c : Nat) (l : List Int) (hn : n = l.length) (hr : Kd.C (Kd.int .u8) w A n l) (hc : n ≤ c) (hb : Bytes l) (B : Option Addr) (c1 : Nat) (h1 : Kd.C (Kd.int .u8) w B 3 markL) (hc1 : 3 ≤ c1) :
    Calls Try.prog 73 #[.slice A n c, .slice B 3 c1] w fun e w' => e = .returned (.bool (decide (l.take 3 = markL))) ∧ Drawn0 w w' := by
  by_cases hlt : 3 ≤ n
  · have b0 : decide ((3 : Int) ≤ (n : Int)) = true := decide_eq_true (by omega)
    obtain ⟨i0, hi0, _, hsz0, _⟩ := info_parts info8
    have hp := print_take_of (P := Try.prog) (Value.int .u8) 0 36 5 .i64 Try.underlying36 hi0 hsz0 A c l 3 (by omega) (by omega) (by omega)
    have h3 : (l.take 3).length = 3 := by rw [List.length_take]; omega
    rw [show (3 : Int).toNat = 3 from rfl, h3, ← hn] at hp
    have hcut := hp.1
    have hq := equal_n w A 3 c (l.take 3) B 3 c1 markL h3.symm rfl (fun x hx => hb x (List.mem_of_mem_take hx)) markB (Kd.C_of_reads (h1 := fun _ => rfl) (hp.2.1 w (Kd.reads_of_C hr))) (by omega) h1 hc1
    have HQ := Lib.hid hq
    clear hp hq hr h1 h3 hi0 hsz0
    go_enter Try.func73, Try.ntmps73
    go_wp2_with (go_at_call 53; with_reducible refine HQ.out.mono ?_; rintro e w1 ⟨rfl, hd1⟩; have HD := Lib.hid hd1; clear hd1)
    go_ret
    exact ⟨rfl, HD.out⟩
  · have b0 : decide ((3 : Int) ≤ (n : Int)) = false := decide_eq_false (by omega)
    have e : decide (l.take 3 = markL) = false := decide_eq_false (fun h => by
      have := congrArg List.length h
      rw [List.length_take] at this
      have h3 : markL.length = 3 := rfl
      omega)
    rw [e]
    go_enter Try.func73, Try.ntmps73
    go_wp2
    go_ret
    exact ⟨rfl, by repeat (first | exact Drawn0.refl _ | apply Drawn0.step)⟩
set_option maxRecDepth 100000 in
set_option maxHeartbeats 2000000 in
theorem cut_no (w : World) (A : Option Addr) (n c : Nat) (l : List Int) (hn : n = l.length) (hr : Kd.C (Kd.int .u8) w A n l) (hc : n ≤ c) (hb : Bytes l) (B : Option Addr) (c1 : Nat) (h1 : Kd.C (Kd.int .u8) w B 3 markL) (hc1 : 3 ≤ c1) (hno : ¬ l.take 3 = markL) :
    Calls Try.prog 51 #[.slice A n c, .slice B 3 c1] w fun e w' => e = .returned (.tuple #[.slice A n c, .bool false]) ∧ Drawn0 w w' := by
  have hq := prefix_calls w A n c l hn hr hc hb B c1 h1 hc1
  rw [decide_eq_false hno] at hq
  have HQ := Lib.hid hq
  clear hn hq hr h1
  go_enter Try.func51, Try.ntmps51
  go_wp2_with (go_at_call 73; with_reducible refine HQ.out.mono ?_; rintro e w1 ⟨rfl, hd1⟩; have HD := Lib.hid hd1; clear hd1)
  go_ret2
  exact ⟨rfl, HD.out⟩
set_option maxRecDepth 100000 in
set_option maxHeartbeats 2000000 in
theorem cut_yes (w : World) (A : Option Addr) (n c : Nat) (l : List Int) (hn : n = l.length) (hr : Kd.C (Kd.int .u8) w A n l) (hc : n ≤ c) (hb : Bytes l) (B : Option Addr) (c1 : Nat) (h1 : Kd.C (Kd.int .u8) w B 3 markL) (hc1 : 3 ≤ c1) (hyes : l.take 3 = markL) :
    Calls Try.prog 51 #[.slice A n c, .slice B 3 c1] w fun e w' => (∃ A', e = .returned (.tuple #[.slice A' (n - 3) (c - 3), .bool true]) ∧ Kd.C (Kd.int .u8) w' A' (n - 3) (l.drop 3)) ∧ Drawn0 w w' := by
  have hq := prefix_calls w A n c l hn hr hc hb B c1 h1 hc1
  rw [decide_eq_true hyes] at hq
  have h3n : 3 ≤ n := by
    have := congrArg List.length hyes
    rw [List.length_take] at this
    have h3 : markL.length = 3 := rfl
    omega
  obtain ⟨i0, hi0, _, hsz0, _⟩ := info_parts info8
  obtain ⟨A', hcut, hA'⟩ := print_cut_of (P := Try.prog) (Value.int .u8) 0 36 5 .i64 Try.underlying36 hi0 hsz0 A n c 3 h3n
  have hC' := fun (W : World) (h : Drawn0 w W) => Kd.C_below (Kd.C_of_reads (h1 := fun _ => rfl) (hA' w l hc (Kd.reads_of_C hr))) h.below
  have HC' := Lib.hid hC'
  have HQ := Lib.hid hq
  clear hn hq hr h1 hA' hC' hi0 hsz0
  have hcut2 : ∀ W : World, (Instr.slice 36 (.slice A n c) (some (.int .i64 3)) none none).run Try.prog W = .ok (.slice A' (n - 3) (c - 3)) W := hcut
  clear hcut
  go_enter Try.func51, Try.ntmps51
  go_wp2_with (go_at_call 73; with_reducible refine HQ.out.mono ?_; rintro e w1 ⟨rfl, hd1⟩; have HD := Lib.hid hd1; clear hd1)
  go_ret2
  exact ⟨⟨A', rfl, HC'.out _ HD.out⟩, HD.out⟩
end Go.Proofs.Yteajlffchdbkjaa.By
namespace Go.Proofs.Yteajlffchdbkjaa.By
open Go.RowKit Go.Shelf Go.Proofs.Yteajlffchdbkjaa.Sp Go.Proofs.Yteajlffchdbkjaa.H Go.Proofs.Yteajlffchdbkjaa.Uv Go.Proofs.Yteajlffchdbkjaa.Fr Go.Proofs.YteajlffchdbkjaaW.PrintWords Go.Proofs.YteajlffchdbkjaaW.PrintLast Go.Proofs.YteajlffchdbkjaaW.PrintMore
set_option linter.unusedVariables false
set_option linter.unusedSimpArgs false
attribute [local go_sem] Oper.semAt_some
theorem wp_calm {P : Program} {c : Code} {Q : Exit → Act → World → Prop} {a : Act} {w : World} (h : c.wp P (Exit.then (fun a w => Q .normal a w) (fun _ _ _ => False)) a w) : c.wp P Q a w :=
  wp_mono h (by
    intro e a w h
    cases e <;> first | exact h | exact h.elim)
theorem uget_n (w : World) (A : Option Addr) (n c : Nat) (l : List Int) (hn : n = l.length) (hr : (Kd.int .u8).C w A n l) (hc : n ≤ c) (hb : Bytes l) (v k e : Int) (h : getI l = (v, k, e)) : Calls Try.prog 50 #[.slice A n c] w fun r w' => r = .returned (.tuple #[.int .u64 v, .int .i64 k, .int .i64 e]) ∧ Below w.heap.size w w' := by
  subst hn
  have := uget_calls w A c l hr hc hb
  rwa [h] at this
/-- What a voucher's bytes come to, as five results. -/
noncomputable def readR (l : List Int) : Value := .tuple #[.int .i64 (readV l).1, .int .i64 (readV l).2.1, .int .i64 (readV l).2.2.1, .int .u64 (readV l).2.2.2.1, .int .i64 (readV l).2.2.2.2]
theorem readR_bad {l : List Int} (h : ∀ r p u tag, ¬ Good l r p u tag) : readR l = .tuple #[.int .i64 0, .int .i64 0, .int .i64 0, .int .u64 0, .int .i64 3] := by unfold readR; rw [readV_bad h]
theorem readR_good {l : List Int} {r p u tag : Int} (h : Good l r p u tag) : readR l = .tuple #[.int .i64 r, .int .i64 p, .int .i64 u, .int .u64 tag, .int .i64 0] := by unfold readR; rw [readV_good h]
theorem cut_any (w : World) (A : Option Addr) (n c : Nat) (l : List Int) (hn : n = l.length) (hr : Kd.C (Kd.int .u8) w A n l) (hc : n ≤ c) (hb : Bytes l) (B : Option Addr) (c1 : Nat) (h1 : Kd.C (Kd.int .u8) w B 3 markL) (hc1 : 3 ≤ c1) :
    Calls Try.prog 51 #[.slice A n c, .slice B 3 c1] w fun e w' => (∃ A' n' c', e = .returned (.tuple #[.slice A' n' c', .bool (decide (l.take 3 = markL))])) ∧ Drawn0 w w' := by
  by_cases h : l.take 3 = markL
  · rw [decide_eq_true h]
    exact (cut_yes w A n c l hn hr hc hb B c1 h1 hc1 h).mono fun e w' ⟨⟨A', h2, _⟩, h3⟩ => ⟨⟨A', _, _, h2⟩, h3⟩
  · rw [decide_eq_false h]
    exact (cut_no w A n c l hn hr hc hb B c1 h1 hc1 h).mono fun e w' ⟨h2, h3⟩ => ⟨⟨_, _, _, h2⟩, h3⟩
set_option maxRecDepth 100000 in
set_option maxHeartbeats 2000000 in
theorem read_none (w : World) (A : Option Addr) (c : Nat) (l : List Int) (hr : Kd.C (Kd.int .u8) w A l.length l) (hc : l.length ≤ c) (hb : Bytes l) (hl : l.length ≤ 1000000) (he : ¬ (getF l).2.2 = 0) :
    Calls Try.prog 29 #[.slice A l.length c] w fun e w' => e = .returned (.tuple #[.int .i64 0, .int .i64 0, .int .i64 0, .int .u64 0, .int .i64 3]) ∧ Below w.heap.size w w' := by
  have hq := fget_calls w A c l hr hc hb (by omega)
  obtain ⟨⟨t, k, e⟩, hF⟩ : ∃ q, getF l = q := ⟨_, rfl⟩
  rw [hF] at hq he
  have b0 : (e != 0) = true := by simpa using he
  have HQ := Lib.hid hq
  clear hq he hF hr
  go_enter Try.func29, Try.ntmps29
  go_wp2_with (go_at_call 49; with_reducible refine HQ.out.mono ?_; rintro e1 w1 ⟨v0, rfl, hR, hb1⟩; have HB := Lib.hid hb1; clear hb1 hR)
  refine bodyPost_ret (v := .tuple #[.int .i64 0, .int .i64 0, .int .i64 0, .int .u64 0, .int .i64 3]) (by simp [results, Try.results29, go_sem]) rfl ?_
  exact ⟨rfl, HB.out⟩
set_option maxRecDepth 100000 in
set_option maxHeartbeats 2000000 in
theorem read_off (w : World) (A : Option Addr) (c : Nat) (l : List Int) (hr : Kd.C (Kd.int .u8) w A l.length l) (hc : l.length ≤ c) (hb : Bytes l) (hl : l.length ≤ 1000000) (t : List Int) (k tag n e : Int) (hF : getF l = (t, k, 0)) (hG : getI (l.drop k.toNat) = (tag, n, e)) (hno : ¬ (e = 0 ∧ k + n = l.length ∧ t.take 3 = markL)) :
    Calls Try.prog 29 #[.slice A l.length c] w fun e w' => e = .returned (.tuple #[.int .i64 0, .int .i64 0, .int .i64 0, .int .u64 0, .int .i64 3]) ∧ Below w.heap.size w w' := by
  have hq := fget_calls w A c l hr hc hb (by omega)
  rw [hF] at hq
  dsimp only at hq
  obtain ⟨hk0, hloop, hkl, htl, htb⟩ := getF_ok hb hF
  clear hloop
  obtain ⟨i0, hi0, _, hsz0, _⟩ := info_parts info8
  obtain ⟨A9, hcut9, hA9, hC9⟩ := print_drop_of (P := Try.prog) (Value.int .u8) 0 36 5 .i64 Try.underlying36 hi0 hsz0 A c l k hk0 (by omega) hc
  obtain ⟨m, hm⟩ : ∃ m, (l.drop k.toNat).length = m := ⟨_, rfl⟩
  obtain ⟨tn, htn⟩ : ∃ m, t.length = m := ⟨_, rfl⟩
  rw [hm] at hcut9 hC9 hA9
  have HC9 := Lib.hid (fun (W : World) (h : Below w.heap.size w W) => Kd.C_of_reads (h1 := fun _ => rfl) (hA9 W (Kd.reads_of_C (Kd.C_below hr h))))
  have HU := Lib.hid (fun (W : World) (h : Below w.heap.size w W) => uget_n W A9 m (c - k.toNat) (l.drop k.toNat) hm.symm (HC9.out W h) hC9 (hb.drop _) tag n e hG)
  have hkn : -9223372036854775808 ≤ k + n ∧ k + n ≤ 9223372036854775807 ∨ ¬ e = 0 := by
    by_cases h : e = 0
    · have := getI_in (hb.drop k.toNat) (by rw [hG]; exact h)
      rw [hG] at this
      dsimp only at this
      rw [hm] at this
      left
      have h3 : m ≤ l.length := by rw [← hm, List.length_drop]; omega
      omega
    · exact .inr h
  have HQ := Lib.hid hq
  have HT := Lib.hid htb
  have HTN := Lib.hid htn
  have HM := Lib.hid hm
  have HKN := Lib.hid hkn
  have HNO := Lib.hid hno
  clear hq hA9 hi0 hsz0 hF hG htb htn hm hb htl hkn hno
  have qc : ∀ (w : World), _ := fun w => Lib.run_convert_bytes_const (P := Try.prog) w 36 5 #[.int .u8 118, .int .u8 99, .int .u8 104] 3 3 Try.underlying36 Try.underlying5
  go_enter Try.func29, Try.ntmps29
  go_upto_region 5 with (first
    | (go_at_call 49; with_reducible refine HQ.out.mono ?_; rintro e1 w1 ⟨v1, rfl, hR1, hb1⟩; obtain ⟨A1, c1, hv1, hc1, hC1⟩ := Kd.R_reads hR1; rw [HTN.out] at hv1 hC1 hc1; subst hv1; have HC1 := Lib.hid hC1; have HB1 := Lib.hid hb1; clear hR1 hb1 hC1)
    | (go_at_call 50; with_reducible refine (HU.out _ HB1.out).mono ?_; rintro e2 w2 ⟨rfl, hb2⟩; have HB2 := Lib.hid (HB1.out.trans (hb2.mono HB1.out.size)); have HC2 := Lib.hid (Kd.C_below HC1.out hb2); clear hb2))
  obtain ⟨W, hW⟩ : ∃ W, w2.alloc (.cells #[.int .u8 118, .int .u8 99, .int .u8 104] 5 (3, 4)) = W := ⟨_, rfl⟩
  have HC0 := Lib.hid (show (Kd.int .u8).C W (some ⟨w2.heap.size, 0, none⟩) 3 markL from by rw [← hW]; exact mark_C w2 4)
  have HBW0 := Lib.hid (show Below w2.heap.size w2 W from by rw [← hW]; exact below_mark w2)
  have HBW := Lib.hid (HB2.out.trans (HBW0.out.mono HB2.out.size))
  have HX := Lib.hid (cut_any W A1 tn c1 t HTN.out.symm (Kd.C_below HC2.out HBW0.out) hc1 HT.out (some ⟨w2.heap.size, 0, none⟩) 3 HC0.out (Nat.le_refl _))
  go_upto_region 6 with (go_at_call 51; with_reducible refine HX.out.mono ?_; rintro e3 w3 ⟨⟨A3, n3, c3, rfl⟩, hd3⟩; have HB3 := Lib.hid (HBW.out.trans (hd3.below.mono HBW.out.size)); clear hd3)
  clear hW qc hcut9
  have hkn := HKN.out
  have hno := HNO.out
  by_cases h0 : e = 0
  · have b0 : (e != 0) = false := by simp [h0]
    have b0' : ((0:Int) != 0) = false := rfl
    subst h0
    have hkn : -9223372036854775808 ≤ k + n ∧ k + n ≤ 9223372036854775807 := hkn.resolve_right (fun h => h rfl)
    have hw : IntKind.i64.wrap (k + n) = k + n := i64_of hkn
    by_cases h1 : k + n = l.length
    · have h2 : ¬ t.take 3 = markL := fun h => hno ⟨rfl, h1, h⟩
      have b1 : (k + n != (l.length : Int)) = false := by simpa using h1
      have b2 : decide (t.take 3 = markL) = false := decide_eq_false h2
      clear h1 hno h2
      go_wp2
      refine bodyPost_ret (v := .tuple #[.int .i64 0, .int .i64 0, .int .i64 0, .int .u64 0, .int .i64 3]) (by simp [results, Try.results29, go_sem]) rfl ?_
      exact ⟨rfl, HB3.out⟩
    · have b1 : (k + n != (l.length : Int)) = true := by simpa using h1
      clear h1 hno
      go_wp2
      refine bodyPost_ret (v := .tuple #[.int .i64 0, .int .i64 0, .int .i64 0, .int .u64 0, .int .i64 3]) (by simp [results, Try.results29, go_sem]) rfl ?_
      exact ⟨rfl, HB3.out⟩
  · have b0 : (e != 0) = true := by simpa using h0
    clear h0 hkn hno
    go_wp2
    refine bodyPost_ret (v := .tuple #[.int .i64 0, .int .i64 0, .int .i64 0, .int .u64 0, .int .i64 3]) (by simp [results, Try.results29, go_sem]) rfl ?_
    exact ⟨rfl, HB3.out⟩
end Go.Proofs.Yteajlffchdbkjaa.By
namespace Go.Proofs.Yteajlffchdbkjaa.By
open Go.RowKit Go.Shelf Go.Proofs.Yteajlffchdbkjaa.Sp Go.Proofs.Yteajlffchdbkjaa.H Go.Proofs.Yteajlffchdbkjaa.Uv Go.Proofs.Yteajlffchdbkjaa.Fr Go.Proofs.YteajlffchdbkjaaW.PrintWords Go.Proofs.YteajlffchdbkjaaW.PrintLast Go.Proofs.YteajlffchdbkjaaW.PrintMore
set_option linter.unusedVariables false
set_option linter.unusedSimpArgs false
attribute [local go_sem] Oper.semAt_some
/-- A number and where it begins, within bounds. -/
abbrev Told1 : Type := {p : Int × Int // 0 ≤ p.2 ∧ p.2 ≤ 9223372036854775807}
def numsT (pre : List Told1) : List Int := pre.map (fun x => x.1.2)
theorem numsT_all (pre : List Told1) : (pre.map Subtype.val).map Prod.snd = numsT pre := by unfold numsT; rw [List.map_map]; rfl
theorem info3 : (Try.prog.info? 3).map (fun i => (i.zero, i.size, i.bytes)) = some (some (.int .i64 0), 1, 8) := by kernel_rfl
theorem ownInts {w : World} {base : Nat} {v : Value} {k : Nat} {N : List Int} (hk : k = N.length) (h : w.ownsRow base 3 1 v k (N.map (Value.int .i64))) : (Kd.int .i64).R 3 w base (fun _ => True) v N := by
  subst hk
  exact Kd.R_of_own (enc := Value.int .i64) (h1 := fun _ => rfl) h (fun _ _ => trivial)
theorem text_n (w : World) (A : Option Addr) (n c : Nat) (nums : List Int) (hn0 : n = nums.length) (hr : Kd.C (Kd.int .i64) w A n nums) (hc : n ≤ c) (hn : ∀ x ∈ nums, 0 ≤ x ∧ x ≤ 9223372036854775807) (h0 : 0 < n) (hl : n ≤ 1000) :
    Calls Try.prog 31 #[.slice A n c] w fun e w' => ∃ A' m' c', e = .returned (.slice A' m' c') ∧ m' = (textL nums).length ∧ m' ≤ c' ∧ Kd.C (Kd.int .u8) w' A' m' (textL nums) ∧ Below w.heap.size w w' := by
  subst hn0
  refine (text_calls w A c nums hr hc hn h0 hl).mono ?_
  rintro e w' ⟨v, rfl, hR, hb⟩
  obtain ⟨A', c', rfl, hc', hC'⟩ := Kd.R_reads hR
  exact ⟨A', _, c', rfl, rfl, hc', hC', hb⟩
theorem three {N : List Int} (h : N.length = 3) : ∃ r p u, N = [r, p, u] := by
  match N, h with
  | [r, p, u], _ => exact ⟨r, p, u, rfl⟩
theorem own_lower {w : World} {b0 b1 : Nat} {e : TypeId} {size : Nat} {v : Value} {k : Nat} {xs : List Value} (h : w.ownsRow b1 e size v k xs) (hb : b0 ≤ b1) : w.ownsRow b0 e size v k xs := by
  obtain ⟨h1, h2⟩ := h
  refine ⟨h1, ?_⟩
  rcases h2 with h2 | ⟨g, cap, cur, e1, e2, e3⟩
  · exact .inl h2
  · exact .inr ⟨g, cap, cur, e1, Nat.le_trans hb e2, e3⟩
theorem own_ge {w : World} {b1 : Nat} {e : TypeId} {size : Nat} {v : Value} {k : Nat} {xs : List Value} (h : w.ownsRow b1 e size v k xs) (g : Nat) (hg : some g = v.ownBlock) : b1 ≤ g := by
  obtain ⟨h1, h2⟩ := h
  rcases h2 with ⟨rfl, _⟩ | ⟨g', cap, cur, rfl, e2, e3⟩
  · cases hg
  · cases hg; exact e2
set_option maxRecDepth 100000 in
set_option maxHeartbeats 2000000 in
theorem read_in (w : World) (A : Option Addr) (c : Nat) (l : List Int) (hr : Kd.C (Kd.int .u8) w A l.length l) (hc : l.length ≤ c) (hb : Bytes l) (hl : l.length ≤ 1000000) (t : List Int) (k tag n : Int) (hF : getF l = (t, k, 0)) (hG : getI (l.drop k.toNat) = (tag, n, 0)) (hkn : k + n = l.length) (hmk : t.take 3 = markL) :
    Calls Try.prog 29 #[.slice A l.length c] w fun e w' => e = .returned (readR l) ∧ Below w.heap.size w w' := by
  have hq := fget_calls w A c l hr hc hb (by omega)
  rw [hF] at hq
  dsimp only at hq
  obtain ⟨hk0, hloop, hkl, htl, htb⟩ := getF_ok hb hF
  obtain ⟨i0, hi0, _, hsz0, _⟩ := info_parts info8
  obtain ⟨A9, hcut9, hA9, hC9⟩ := print_drop_of (P := Try.prog) (Value.int .u8) 0 36 5 .i64 Try.underlying36 hi0 hsz0 A c l k hk0 (by omega) hc
  obtain ⟨m, hm⟩ : ∃ m, (l.drop k.toNat).length = m := ⟨_, rfl⟩
  obtain ⟨tn, htn⟩ : ∃ m, t.length = m := ⟨_, rfl⟩
  rw [hm] at hcut9 hC9 hA9
  have HC9 := Lib.hid (fun (W : World) (h : Below w.heap.size w W) => Kd.C_of_reads (h1 := fun _ => rfl) (hA9 W (Kd.reads_of_C (Kd.C_below hr h))))
  have HU := Lib.hid (fun (W : World) (h : Below w.heap.size w W) => uget_n W A9 m (c - k.toNat) (l.drop k.toNat) hm.symm (HC9.out W h) hC9 (hb.drop _) tag n 0 hG)
  have h3t : 3 ≤ tn := by
    have := congrArg List.length hmk
    rw [List.length_take] at this
    have h3 : markL.length = 3 := rfl
    omega
  have hgt := getI_in (hb.drop k.toNat) (by rw [hG])
  rw [hG] at hgt
  dsimp only at hgt
  have hw : IntKind.i64.wrap (k + n) = k + n := i64_of (by omega)
  have b1 : (k + n != (l.length : Int)) = false := by simpa using hkn
  have b2 : decide (t.take 3 = markL) = true := decide_eq_true hmk
  obtain ⟨q, hqq⟩ : ∃ q, tn - 3 = q := ⟨_, rfl⟩
  have hdl : (t.drop 3).length = q := by rw [List.length_drop]; omega
  -- what the end says
  have HGd := Lib.hid (fun r p u (h1 : textL [r, p, u] = t) (h2 : mayF r p u = true) => readR_good (good_of hb hF hG hkn h1 h2))
  have HBd := Lib.hid (show (∀ r p u, (eachL (t.drop 3)).map Prod.snd = [r, p, u] → ¬ (mayF r p u = true ∧ textL [r, p, u] = t)) → readR l = .tuple #[.int .i64 0, .int .i64 0, .int .i64 0, .int .u64 0, .int .i64 3] from fun h => readR_bad fun r p u tag' hg => by
    have e1 := (good_F hg).1
    rw [hF] at e1
    have e2 : t = textL [r, p, u] := congrArg Prod.fst e1
    have e3 := good_each hg
    rw [← e2] at e3
    exact h r p u e3 ⟨hg.1, e2.symm⟩)
  obtain ⟨N, hN⟩ : ∃ N, (eachL (t.drop 3)).map Prod.snd = N := ⟨_, rfl⟩
  rw [hN] at HBd
  have hNl : N.length ≤ 1200 := by
    rw [← hN, List.length_map]
    have := eachL_len (t.drop 3) (htb.drop 3)
    omega
  have HNN := Lib.hid hN
  have HQ := Lib.hid hq
  have HT := Lib.hid htb
  have HTN := Lib.hid htn
  have HDL := Lib.hid hdl
  have HMK := Lib.hid hmk
  have HM := Lib.hid hm
  have HQQ := Lib.hid hqq
  have HTL := Lib.hid htl
  clear hq hA9 hi0 hsz0 hF hG htb htn hm hb htl hloop hN hmk hqq hdl hgt hkn
  have qc : ∀ (w : World), _ := fun w => Lib.run_convert_bytes_const (P := Try.prog) w 36 5 #[.int .u8 118, .int .u8 99, .int .u8 104] 3 3 Try.underlying36 Try.underlying5
  refine (callsIn_wide (n := 8)).1 ?_
  refine callsIn_of_wp_marks Try.func29 rfl trivial (wpIn_wide.2 ?_) rfl
  simp only [Try.ntmps29, List.size_toArray, List.length_cons, List.length_nil, Nat.reduceAdd, Nat.reduceSub, Array.replicate_succ, Array.replicate_zero, List.push_toArray, List.append_toArray, List.nil_append, List.cons_append]
  go_upto_region 5 with (first
    | (go_at_call 49; with_reducible refine HQ.out.mono ?_; rintro e1 w1 ⟨v1, rfl, hR1, hb1⟩; obtain ⟨A1, c1, hv1, hc1, hC1⟩ := Kd.R_reads hR1; rw [HTN.out] at hv1 hC1 hc1; subst hv1; have HC1 := Lib.hid hC1; have HB1 := Lib.hid hb1; clear hR1 hb1 hC1)
    | (go_at_call 50; with_reducible refine (HU.out _ HB1.out).mono ?_; rintro e2 w2 ⟨rfl, hb2⟩; have HB2 := Lib.hid (HB1.out.trans (hb2.mono HB1.out.size)); have HC2 := Lib.hid (Kd.C_below HC1.out hb2); clear hb2))
  obtain ⟨W, hW⟩ : ∃ W, w2.alloc (.cells #[.int .u8 118, .int .u8 99, .int .u8 104] 5 (3, 4)) = W := ⟨_, rfl⟩
  have HC0 := Lib.hid (show (Kd.int .u8).C W (some ⟨w2.heap.size, 0, none⟩) 3 markL from by rw [← hW]; exact mark_C w2 4)
  have HBW0 := Lib.hid (show Below w2.heap.size w2 W from by rw [← hW]; exact below_mark w2)
  have HBW := Lib.hid (HB2.out.trans (HBW0.out.mono HB2.out.size))
  have HC2W := Lib.hid (Kd.C_below HC2.out HBW0.out)
  have HX := Lib.hid (cut_yes W A1 tn c1 t HTN.out.symm HC2W.out hc1 HT.out (some ⟨w2.heap.size, 0, none⟩) 3 HC0.out (Nat.le_refl _) HMK.out)
  rw [HQQ.out] at HX
  go_upto_region 6 with (go_at_call 51; with_reducible refine HX.out.mono ?_; rintro e3 w3 ⟨⟨A3, rfl, hC3⟩, hd3⟩; have HB3 := Lib.hid (HBW.out.trans (hd3.below.mono HBW.out.size)); have HC13 := Lib.hid (Kd.C_below HC2W.out hd3.below); have HC3 := Lib.hid hC3; clear hd3 hC3)
  clear hW qc hcut9
  go_wp2_with (go_at_call 52; refine (each_maker A3 q (c1 - 3) _).mono ?_; rintro e w4 ⟨rfl, rfl⟩)
  obtain ⟨W0, hW0⟩ : ∃ W0, (w3.alloc (.cells #[.slice none 0 0] 54)).alloc (.cells #[.slice A3 q (c1 - 3)] 36) = W0 := ⟨_, rfl⟩
  rw [hW0]
  have hs4 : W0.heap.size = w3.heap.size + 2 := by rw [← hW0]; simp
  have hb30 : Below w3.heap.size w3 W0 := by rw [← hW0]; exact ((Below.refl _ w3).alloc (Nat.le_refl _) _).alloc (by simp) _
  have BN : Boxed W0 w3.heap.size 54 (.slice none 0 0) := by rw [← hW0]; exact (Boxed.new w3 _ _).alloc _
  have BE : Boxed W0 (w3.heap.size + 1) 36 (.slice A3 q (c1 - 3)) := by
    rw [← hW0]; have := Boxed.new (w3.alloc (.cells #[.slice none 0 0] 54)) 36 (.slice A3 q (c1 - 3)); rw [World.size_alloc] at this; exact this
  have hbw : Below w.heap.size w W0 := HB3.out.trans (hb30.mono HB3.out.size)
  have hws := hbw.size
  clear hW0
  obtain ⟨S, hS⟩ : ∃ S : Nat → Prop, S = fun b => b ≠ w3.heap.size ∧ b < W0.heap.size := ⟨_, rfl⟩
  have hSlt : ∀ b, S b → b < W0.heap.size := fun b hb => by rw [hS] at hb; exact hb.2
  have hSn : ∀ b, S b → b ≠ w3.heap.size := fun b hb => by rw [hS] at hb; exact hb.1
  have hSy : ∀ b, b < W0.heap.size → b ≠ w3.heap.size → S b := fun b h1 h2 => by rw [hS]; exact ⟨h2, h1⟩
  clear hS
  have hCt : ∀ V, KeepS S W0 V → Kd.C (Kd.int .u8) V A3 (t.drop 3).length (t.drop 3) := fun V hV => by
    rw [HDL.out]; exact Kd.Heap.C (Kd.heap_int _) (fun k hk => (hV.2 k (hSy k (by omega) (by omega))).trans (hb30.block k hk)) HC3.out
  have HC1V := Lib.hid (show ∀ V, KeepS S W0 V → Kd.C (Kd.int .u8) V A1 tn t from fun V hV =>
    Kd.Heap.C (Kd.heap_int _) (fun k hk => (hV.2 k (hSy k (by omega) (by omega))).trans (hb30.block k hk)) HC13.out)
  have hql : (t.drop 3).length ≤ 1200 := by have := HTL.out; rw [List.length_drop]; omega
  have seq := each_stops_of (β := Told1) 1200 (fun x => x.1) (fun i a _ _ h1 h2 => ⟨⟨(i, a), h1, h2⟩, rfl⟩) 7 (by omega) S (w3.heap.size + 1) A3 (c1 - 3) (t.drop 3) W0 (hSy _ (by omega) (by omega)) hSlt (by rw [HDL.out]; exact BE.cell) (by rw [HDL.out]; have := HQQ.out; omega) (by omega) hql (HT.out.drop 3) hCt
  clear hCt hql BE
  obtain ⟨n1, hn1⟩ : ∃ n1, W0.heap.size = n1 := ⟨_, rfl⟩
  have HN13 := Lib.hid (show w3.heap.size ≤ n1 by omega)
  refine (wpIn_wide (n := 8)).1 ?_
  refine wpIn_rangeFunc_ownF rfl (by omega) (gf := 74) (lb := #[.pointer (some ⟨w3.heap.size + 1, 0, none⟩)]) rfl trivial (enters_of Try.func74 (by kernel_rfl) rfl)
    seq KeepS.trans (fun W l o o' hl h _ _ => KeepS.put W l o o' (fun hb => by have := hSlt l hb; omega) h) (Below.refl _ _) (fun _ => rfl)
    (fun pre V => KeepS S W0 V ∧ (∃ v, Boxed V w3.heap.size 54 v ∧ V.ownsRow n1 3 1 v pre.length ((numsT pre).map (Value.int .i64)) ∧ True) ∧ Below w.heap.size w V)
    (fun _ _ _ => False)
    ?hI ?hIx ?h0 ?a1 ?assign ?body ?done ?stop
  case assign =>
    intro l x W K hK
    gi_wp2
    exact hK
  case hI =>
    rintro s X Y row ⟨h2, h3, h4⟩ hg hr
    exact ⟨h2.grown hSlt hg (fun r e hb => by have := (hr r e).1; have := hSlt r hb; omega), holdsRow_own n1 w3.heap.size 54 3 1 (fun pre : List Told1 => pre.length) (fun pre => (numsT pre).map (Value.int .i64)) (fun _ _ => True) s X Y row h3 hg (fun r e => (hr r e).2), h4.grown hg (Nat.le_trans hbw.size h2.1) (fun k e => by have := (hr k e).1; omega)⟩
  case hIx => exact fun cc s X Y row h hg hr => h
  case h0 => exact ⟨KeepS.refl _ _, ⟨_, BN, World.ownsRow_nil _ _ _ _, trivial⟩, hbw⟩
  case body =>
    rintro lp pre ⟨⟨x1, x2⟩, hx1, hx2⟩ V ⟨hk, ⟨v, b9, hrow, _⟩, hbl⟩ hlt
    dsimp only at hx1 hx2
    have hwx : IntKind.i64.wrap x2 = x2 := i64_of (by omega)
    have hex : (x2 + 9223372036854775808) % 18446744073709551616 - 9223372036854775808 = x2 := by omega
    obtain ⟨i0', hi0, hz0, hsz0, hby0⟩ := info_parts info3
    have HI0 := Lib.hid hi0
    have HZ0 := Lib.hid hz0
    have HS0 := Lib.hid hsz0
    have HY0 := Lib.hid hby0
    have Hrow := Lib.hid hrow
    have Hk := Lib.hid hk
    have Hb9 := Lib.hid b9
    have Hbl := Lib.hid hbl
    have HSn := Lib.hid hSn
    have HSlt := Lib.hid hSlt
    have Hn1 := Lib.hid hn1
    have Hlt := Lib.hid hlt
    have hVs : n1 ≤ V.heap.size := by rw [← hn1]; exact hk.1
    have HVs := Lib.hid hVs
    obtain ⟨j, hj⟩ : ∃ j, pre.length = j := ⟨_, rfl⟩
    have Hj := Lib.hid hj
    rw [hj] at Hrow Hlt
    have hj12 := Hlt.out
    have c9 := b9.cell
    have f9 := b9.frozen
    clear hi0 hz0 hsz0 hby0 hrow hk b9 hbl hSn hSlt hSy seq BN hn1 hlt hVs hj hs4 hws
    gi_wp2_with (gi_at_builtin; refine wpListIn_append_own _ rfl (.tmp 58) (.tmp 61) 54 rfl n1 3 i0' (.int .i64 0) 1 8 Try.underlying54 HI0.out HZ0.out HS0.out HY0.out rfl (by decide) v j ((numsT pre).map (Value.int .i64)) rfl (Hrow.out.alloc _) ⟨V.heap.size, 0, none⟩ 1 1 [.int .i64 x2] rfl rfl (cell_one_new _ _ _) (by simp [Value.oneCell']) (by unfold maxLen; omega) (by omega) (by have := HVs.out; simp; omega) ?_; intro v' w1' hown' hgrow _; obtain ⟨g', cap', hv'⟩ := ownsRow_succ hown'; subst hv'; have hb9' : Boxed w1' w3.heap.size 54 v := (Hb9.out.alloc _).kept hgrow (Hb9.out.not_row (by decide) Hrow.out); have Hown' := Lib.hid hown'; have Hgrow := Lib.hid hgrow; have hc1 := hb9'.cell; have hf1 := hb9'.frozen; have Hb9' := Lib.hid hb9'; clear hown' hgrow hb9')
    have hS1 := HSn.out
    obtain ⟨_, hv2, _, hk2, hb2⟩ := Hb9.out.appended (n₀ := w3.heap.size) (by decide) (own_lower Hrow.out HN13.out) (Nat.le_trans HN13.out HVs.out) (Nat.le_refl _) (own_lower Hown'.out HN13.out) Hgrow.out
    have hr2 := Hown'.out.kept (grownBy_setCell' w1' w3.heap.size (.slice (some ⟨g', 0, none⟩) (j + 1) cap')) (.inr (Hb9'.out.not_row (by decide) Hown'.out).symm)
    have hkS : KeepS S V (w1'.setCell ⟨w3.heap.size, 0, none⟩ (.slice (some ⟨g', 0, none⟩) (j + 1) cap')) := ⟨hb2.size, fun b hb => by
      have h1 := HSlt.out b hb
      have h2 := HVs.out
      have h3 := Hn1.out
      have h4 : V.heap[b]? = (V.alloc (.cells #[.int .i64 x2] 3)).heap[b]? := (Below.heap_alloc V _ b (by omega)).symm
      rw [h4]
      exact (Below.heap_setCell _ _ _ _ (hS1 b hb)).trans (Hgrow.out.block b (by simp; omega) (fun e => by have := own_ge Hrow.out b e; omega))⟩
    refine ⟨hk2, hkS, Hk.out.trans hkS, ⟨_, hv2, ?_, trivial⟩, Hbl.out.trans (hb2.mono HB3.out.size)⟩
    rw [List.length_append, List.length_singleton, Hj.out]
    unfold numsT
    rw [List.map_append, List.map_append]
    exact hr2
  case done =>
    rintro D xs V hD hxs ⟨hk, ⟨v, b9, hrow, _⟩, hbl⟩ hK2
    have hNx : numsT xs = N := by rw [← numsT_all, hxs, HNN.out]
    have hxl : xs.length = N.length := by rw [← hNx]; unfold numsT; rw [List.length_map]
    rw [hNx, hxl] at hrow
    have hR := ownInts rfl hrow
    obtain ⟨Av, cv, hv, hcv, hCv⟩ := Kd.R_reads hR
    obtain ⟨nl, hnl⟩ : ∃ m, N.length = m := ⟨_, rfl⟩
    rw [hnl] at hv hcv hCv hNl hrow
    subst hv
    have HROW := Lib.hid hrow
    have HCV := Lib.hid hCv
    have HCT := Lib.hid (HC1V.out V hk)
    have HBL := Lib.hid hbl
    have HK2 := Lib.hid hK2
    have HNL := Lib.hid hnl
    have c14 := b9.cell
    clear hk hrow hR hCv hbl hK2 hxs hNx hxl hnl b9 seq hSy hSn hSlt BN hn1 hs4 hws hbw
    go_upto_region 12 with fail
    go_cut [85] from 63 (fun s85 wx => ((s85 = .bool true ∧ ∀ r p u, N = [r, p, u] → ¬ (mayF r p u = true ∧ textL [r, p, u] = t)) ∨ (s85 = .bool false ∧ ∃ r p u, N = [r, p, u] ∧ mayF r p u = true ∧ textL [r, p, u] = t)) ∧ Below V.heap.size V wx)
    case first =>
      have hbd : Below V.heap.size V V.drew := ⟨rfl, rfl, rfl, Nat.le_refl _, fun _ _ => rfl⟩
      by_cases hn3 : nl = 3
      · subst hn3
        obtain ⟨r, p, u, rfl⟩ := three HNL.out
        obtain ⟨g, cap, hg⟩ := ownsRow_succ HROW.out
        obtain ⟨rfl, rfl⟩ : Av = some ⟨g, 0, none⟩ ∧ cv = cap := by injection hg with h1 h2 h3; exact ⟨h1, h3⟩
        obtain ⟨_, e0, d0⟩ := cell_of_C HCV.out 0 (by simp) rfl
        injection e0 with e0
        subst e0
        obtain ⟨_, e0, d1⟩ := cell_of_C HCV.out 1 (by simp) rfl
        injection e0 with e0
        subst e0
        obtain ⟨_, e0, d2⟩ := cell_of_C HCV.out 2 (by simp) rfl
        injection e0 with e0
        subst e0
        clear hg
        replace d0 : V.cell? ⟨g, 0, none⟩ = some (.int .i64 r) := d0
        replace d1 : V.cell? ⟨g, 1, none⟩ = some (.int .i64 p) := d1
        replace d2 : V.cell? ⟨g, 2, none⟩ = some (.int .i64 u) := d2
        have HCELL := Lib.hid (show ∀ W, Below V.heap.size V W → W.cell? ⟨w3.heap.size, 0, none⟩ = some (.slice (some ⟨g, 0, none⟩) 3 cv) ∧ W.cell? ⟨g, 0, none⟩ = some (.int .i64 r) ∧ W.cell? ⟨g, 1, none⟩ = some (.int .i64 p) ∧ W.cell? ⟨g, 2, none⟩ = some (.int .i64 u) from fun W hW =>
          ⟨(hW.cell (World.block_lt_of_cell? _ _ c14)).trans c14, (hW.cell (World.block_lt_of_cell? _ _ d0)).trans d0, (hW.cell (World.block_lt_of_cell? _ _ d1)).trans d1, (hW.cell (World.block_lt_of_cell? _ _ d2)).trans d2⟩)
        have b3 : ((3 : Int) != 3) = false := rfl
        refine wp_calm ?_
        by_cases hm : mayF r p u = true
        · have HM' := Lib.hid hm
          have KM := Lib.hid (fun (W : World) => (may_calls W r p u))
          rw [hm] at KM
          obtain ⟨bt, hbt⟩ : ∃ b, decide (textL [r, p, u] = t) = b := ⟨_, rfl⟩
          have HBT := Lib.hid hbt
          clear hbt hm
          have KT := Lib.hid (fun (W : World) (h : Below V.heap.size V W) => text_n W (some ⟨g, 0, none⟩) 3 cv [r, p, u] rfl (Kd.C_below HCV.out h) hcv (may_nums HM'.out) (by omega) (by omega))
          go_region_held3 (fun w' => w'.cell? ⟨w3.heap.size, 0, none⟩ = some (.slice (some ⟨g, 0, none⟩) 3 cv) ∧ w'.cell? ⟨g, 0, none⟩ = some (.int .i64 r) ∧ w'.cell? ⟨g, 1, none⟩ = some (.int .i64 p) ∧ w'.cell? ⟨g, 2, none⟩ = some (.int .i64 u)) (first | exact ⟨c14, d0, d1, d2⟩ | exact f6 | exact f7 | exact f8 | go_keep)
            (first
              | (go_at_call 45; refine (KM.out _).mono ?_; rintro e w6 ⟨rfl, hd6⟩; have HB6 := Lib.hid (hbd.trans hd6.below); have f6 := HCELL.out w6 HB6.out; clear hd6)
              | (go_at_call 31; refine (KT.out _ HB6.out).mono ?_; rintro e w7 ⟨A7, m7, c7, rfl, hm7, hc7, hC7, hb7⟩; have HB7 := Lib.hid (HB6.out.trans (hb7.mono HB6.out.size)); have f7 := HCELL.out w7 HB7.out; have HC7 := Lib.hid hC7; have HM7 := Lib.hid hm7; clear hb7 hm7 hC7)
              | (go_at_call 53; refine (equal_n w7 A7 m7 c7 (textL [r, p, u]) A1 tn c1 t HM7.out HTN.out.symm (textL_bytes (fun x hx => (may_nums HM'.out x hx).1)) HT.out HC7.out hc7 (Kd.C_below HCT.out HB7.out) hc1).mono ?_; rw [HBT.out]; rintro e w8 ⟨rfl, hd8⟩; have HB8 := Lib.hid (HB7.out.trans (hd8.below.mono HB7.out.size)); have f8 := HCELL.out w8 HB8.out; clear hd8))
          cases bt with
          | true =>
            have HW := Lib.hid (of_decide_eq_true HBT.out)
            go_wp2_with fail
            go_meet
            case rel => exact ⟨.inr ⟨rfl, r, p, u, rfl, HM'.out, HW.out⟩, HB8.out⟩
          | false =>
            have HW := Lib.hid (of_decide_eq_false HBT.out)
            go_wp2_with fail
            go_meet
            case rel => exact ⟨.inl ⟨rfl, fun r' p' u' e h => by cases e; exact HW.out h.2⟩, HB8.out⟩
        · have HM' := Lib.hid hm
          have hmf : mayF r p u = false := by simpa using hm
          have KM := Lib.hid (fun (W : World) => (may_calls W r p u))
          rw [hmf] at KM
          clear hm hmf
          go_quiet ((go_loud (go_at_call 45; exact Calls.quiet_of ((KM.out _).mono (fun e w6 h => ⟨h.1, h.2.out⟩)))))
          go_wp2_with fail
          go_meet
          case rel => exact ⟨.inl ⟨rfl, fun r' p' u' e h => by cases e; exact HM'.out h.1⟩, below_drN (Below.refl _ _) _⟩
      · have b3 : ((nl : Int) != 3) = true := by simp; omega
        have HN3 := Lib.hid hn3
        clear hn3
        refine wp_calm ?_
        go_quiet (fail)
        go_wp2_with fail
        go_meet
        case rel => exact ⟨.inl ⟨rfl, fun r' p' u' e h => HN3.out (by rw [← HNL.out, e]; rfl)⟩, below_drN (Below.refl _ _) _⟩
    case rest =>
      obtain ⟨hres, hbx⟩ := hcut
      have HBX := Lib.hid hbx
      have hDl : D < V.heap.size := (Array.getElem?_eq_some_iff.1 HK2.out).1
      have HKX := Lib.hid ((hbx.block D hDl).trans HK2.out)
      have HDL2 := Lib.hid (show w.heap.size ≤ D by have := HB3.out.size; have := hb30.size; omega)
      clear hbx hDl
      rcases hres with ⟨rfl, hbad⟩ | ⟨rfl, r, p, u, hNe, hm, ht⟩
      · have HE := Lib.hid (HBd.out hbad)
        clear hbad c14
        go_wp2
        refine ⟨by simp, .inl ⟨_, _, rfl, run_takeDeferred HKX.out, ?_⟩⟩
        refine ⟨.tuple #[.int .i64 0, .int .i64 0, .int .i64 0, .int .u64 0, .int .i64 3], ?_, by rw [HE.out], (HBL.out.trans (HBX.out.mono HBL.out.size)).trans (belowK_b (w := w) (Nat.le_refl _) _ D _ _ HDL2.out HKX.out rfl rfl)⟩
        simp [results, Try.f29, go_sem]
      · subst hNe
        obtain rfl : nl = 3 := HNL.out.symm
        obtain ⟨g, cap, hg⟩ := ownsRow_succ HROW.out
        obtain ⟨rfl, rfl⟩ : Av = some ⟨g, 0, none⟩ ∧ cv = cap := by injection hg with h1 h2 h3; exact ⟨h1, h3⟩
        obtain ⟨_, e0, d0⟩ := cell_of_C HCV.out 0 (by simp) rfl
        injection e0 with e0
        subst e0
        obtain ⟨_, e0, d1⟩ := cell_of_C HCV.out 1 (by simp) rfl
        injection e0 with e0
        subst e0
        obtain ⟨_, e0, d2⟩ := cell_of_C HCV.out 2 (by simp) rfl
        injection e0 with e0
        subst e0
        clear hg
        replace d0 : V.cell? ⟨g, 0, none⟩ = some (.int .i64 r) := d0
        replace d1 : V.cell? ⟨g, 1, none⟩ = some (.int .i64 p) := d1
        replace d2 : V.cell? ⟨g, 2, none⟩ = some (.int .i64 u) := d2
        replace c14 := (HBX.out.cell (World.block_lt_of_cell? _ _ c14)).trans c14
        replace d0 := (HBX.out.cell (World.block_lt_of_cell? _ _ d0)).trans d0
        replace d1 := (HBX.out.cell (World.block_lt_of_cell? _ _ d1)).trans d1
        replace d2 := (HBX.out.cell (World.block_lt_of_cell? _ _ d2)).trans d2
        have HE := Lib.hid (HGd.out r p u ht hm)
        clear hm ht
        go_upto_region 14 with fail
        refine wp_calm ?_
        go_quiet (fail)
        go_wp2_with fail
        have HKY := Lib.hid (show (wc.drewN nq).heap[D]? = some (.deferred (some [])) from HKX.out)
        refine ⟨by simp, .inl ⟨_, _, rfl, run_takeDeferred HKY.out, ?_⟩⟩
        refine ⟨.tuple #[.int .i64 r, .int .i64 p, .int .i64 u, .int .u64 tag, .int .i64 0], ?_, by rw [HE.out], (HBL.out.trans ((below_drN HBX.out nq).mono HBL.out.size)).trans (belowK_b (w := w) (Nat.le_refl _) _ D _ _ HDL2.out HKY.out rfl rfl)⟩
        simp [results, Try.f29, go_sem]
  case stop => exact fun D jmp pre V hD hS hX hK2 => hX.elim
theorem read_calls (w : World) (A : Option Addr) (n c : Nat) (l : List Int) (hn : n = l.length) (hr : Kd.C (Kd.int .u8) w A n l) (hc : n ≤ c) (hb : Bytes l) (hl : n ≤ 1000000) :
    Calls Try.prog 29 #[.slice A n c] w fun e w' => e = .returned (readR l) ∧ Below w.heap.size w w' := by
  subst hn
  obtain ⟨⟨t, k, e⟩, hF⟩ : ∃ q, getF l = q := ⟨_, rfl⟩
  by_cases he : e = 0
  · subst he
    obtain ⟨⟨tag, m, e2⟩, hG⟩ : ∃ q, getI (l.drop k.toNat) = q := ⟨_, rfl⟩
    by_cases h : e2 = 0 ∧ k + m = l.length ∧ t.take 3 = markL
    · obtain ⟨rfl, h1, h2⟩ := h
      exact read_in w A c l hr hc hb hl t k tag m hF hG h1 h2
    · rw [readR_bad (l := l) fun r p u tag' hg => ?_]
      · exact read_off w A c l hr hc hb hl t k tag m e2 hF hG h
      · have e1 := (good_F hg).1
        rw [hF] at e1
        have e2' : t = textL [r, p, u] := congrArg Prod.fst e1
        have e3 : k = ((frameI (textL [r, p, u])).length : Int) := congrArg (fun q => q.2.1) e1
        have e4 := good_tag hg
        have e5 := good_len hg
        rw [e3, Int.toNat_natCast, e4] at hG
        have g2 : ((putI tag').length : Int) = m := congrArg (fun q => q.2.1) hG
        have g3 : (0 : Int) = e2 := congrArg (fun q => q.2.2) hG
        exact h ⟨g3.symm, by rw [e3, ← g2, e5]; simp, by rw [e2', textL_take]⟩
  · rw [readR_bad (l := l) fun r p u tag' hg => ?_]
    · exact read_none w A c l hr hc hb hl (by rw [hF]; exact he)
    · have e1 := (good_F hg).1
      rw [hF] at e1
      exact he (congrArg (fun q => q.2.2) e1)
end Go.Proofs.Yteajlffchdbkjaa.By
namespace Go.Proofs.Yteajlffchdbkjaa.By
open Go.RowKit Go.Shelf Go.Proofs.Yteajlffchdbkjaa.Sp Go.Proofs.Yteajlffchdbkjaa.Nt Go.Proofs.Yteajlffchdbkjaa.H Go.Proofs.Yteajlffchdbkjaa.Uv Go.Proofs.Yteajlffchdbkjaa.Fr Go.Proofs.YteajlffchdbkjaaW.PrintWords Go.Proofs.YteajlffchdbkjaaW.PrintLast Go.Proofs.YteajlffchdbkjaaW.PrintMore
set_option linter.unusedVariables false
set_option linter.unusedSimpArgs false
def makeF (L : List Ent) (r p u : Int) : List Int × Int × List Ent :=
  if mayF r p u = true then (vouchI r p u (mintF L r (textL [r, p, u])).1, 0, (mintF L r (textL [r, p, u])).2.2) else ([], 1, L)
noncomputable def checkV (L : List Ent) (b : List Int) (relay peer now : Int) : Int × Int :=
  if (readV b).2.2.2.2 ≠ 0 then (0, (readV b).2.2.2.2)
  else if (readV b).1 ≠ relay ∨ (readV b).2.1 ≠ peer then (0, 7)
  else if checkF L (readV b).1 (textL [(readV b).1, (readV b).2.1, (readV b).2.2.1]) (readV b).2.2.2.1 ≠ 0 then (0, 12)
  else if (readV b).2.2.1 ≤ now then (0, 11) else ((readV b).2.2.1, 0)
theorem text_fine {r p u : Int} (h : mayF r p u = true) : Nt.fine (r, textL [r, p, u]) := by
  have := (mayF_iff r p u).1 h
  have := text3_len r p u
  exact ⟨⟨by dsimp only; omega, by dsimp only; omega⟩, textL_bytes (fun x hx => (may_nums h x hx).1), by dsimp only; omega⟩
theorem mint_may {L : List Ent} {r : Int} {t : List Int} (h1 : 1 ≤ r) (h2 : r ≤ 2147483647) : (mintF L r t).2.1 = 0 ∧ 1 ≤ (mintF L r t).1 ∧ (mintF L r t).1 ≤ L.length + 1 := by
  unfold mintF
  rw [if_neg (by omega)]
  split
  · rename_i h
    have := List.idxOf_lt_length_iff.2 h
    exact ⟨rfl, by dsimp only; omega, by dsimp only; omega⟩
  · exact ⟨rfl, by dsimp only; omega, by dsimp only; omega⟩
theorem ints_C (w : World) (r p u : Int) : (Kd.int .i64).C (w.alloc (.cells #[.int .i64 r, .int .i64 p, .int .i64 u] 3)) (some ⟨w.heap.size, 0, none⟩) 3 [r, p, u] := Kd.C_of_reads (d := (0 : Int)) (h1 := fun _ => rfl) ⟨rfl, by decide, fun _ => ⟨_, rfl, fun j hj => by
      rw [Addr.add_lit]
      have h := new_cellsN w 3 #[.int .i64 r, .int .i64 p, .int .i64 u]
      match j, hj with
      | 0, _ => exact cell_cellsN h 0 (by simp)
      | 1, _ => exact cell_cellsN h 1 (by simp)
      | 2, _ => exact cell_cellsN h 2 (by simp)⟩⟩
/-- The text of three numbers that were just laid into a row. -/
theorem text_lit (w : World) (r p u : Int) (h : mayF r p u = true) :
    Calls Try.prog 31 #[.slice (some ⟨w.heap.size, 0, none⟩) 3 3] (w.alloc (.cells #[.int .i64 r, .int .i64 p, .int .i64 u] 3)) fun e w' => ∃ A m c, e = .returned (.slice A m c) ∧ m = (textL [r, p, u]).length ∧ m ≤ c ∧ (Kd.int .u8).R 5 w' w.heap.size (fun k => w.heap.size ≤ k ∧ k < w'.heap.size) (.slice A m c) (textL [r, p, u]) ∧ Below w.heap.size w w' := by
  have hb : Below w.heap.size w (w.alloc (.cells #[.int .i64 r, .int .i64 p, .int .i64 u] 3)) := (Below.refl _ _).alloc (Nat.le_refl _) _
  refine (text_calls _ (some ⟨w.heap.size, 0, none⟩) 3 [r, p, u] (ints_C w r p u) (by simp) (may_nums h) (by simp) (by simp)).mono ?_
  rintro e w' ⟨v, rfl, hR, hb'⟩
  obtain ⟨A, c, rfl, hc, hC⟩ := Kd.R_reads hR
  exact ⟨A, _, c, rfl, rfl, hc, R_own (Kd.R_lower hR (by simp)), hb.trans (hb'.mono (by simp))⟩
theorem R_moved {w w1 : World} {base s n : Nat} {A : Option Addr} {m c : Nat} {xs : List Int} (h : (Kd.int .u8).R 5 w base (fun k => s ≤ k ∧ k < n) (.slice A m c) xs) (hk : ∀ k, s ≤ k → k < n → w1.heap[k]? = w.heap[k]?) : (Kd.int .u8).R 5 w1 base (fun k => s ≤ k ∧ k < n) (.slice A m c) xs := Kd.R_step h (fun k h1 _ => hk k h1.1 h1.2)
theorem R_C {w : World} {base : Nat} {ok : Nat → Prop} {A : Option Addr} {m c : Nat} {xs : List Int} (h : (Kd.int .u8).R 5 w base ok (.slice A m c) xs) : (Kd.int .u8).C w A m xs ∧ m = xs.length ∧ m ≤ c := by
  obtain ⟨A', c', e, h1, h2⟩ := Kd.R_reads h
  injection e with e1 e2 e3
  subst e1 e2 e3
  exact ⟨h2, rfl, h1⟩
theorem drawn_size {w w' : World} (h : Drawn0 w w') : w'.heap.size = w.heap.size := by
  obtain ⟨n, rfl⟩ := h.out
  rfl
set_option maxRecDepth 100000 in
set_option maxHeartbeats 2000000 in
theorem make_no (w : World) (g : Nat) (r p u : Int) (h : ¬ mayF r p u = true) :
    Calls Try.prog 28 #[.pointer (some ⟨g, 0, none⟩), .int .i64 r, .int .i64 p, .int .i64 u] w fun e w' => e = .returned (.tuple #[.slice none 0 0, .int .i64 1]) ∧ Drawn0 w w' := by
  have hmf : mayF r p u = false := by simpa using h
  have KM := may_calls w r p u
  rw [hmf] at KM
  have KM := Lib.hid KM
  clear h hmf
  go_enter Try.func28, Try.ntmps28
  go_wp2_with (go_at_call 45; with_reducible refine KM.out.mono ?_; rintro e w6 ⟨rfl, hd6⟩; have HD := Lib.hid hd6; clear hd6)
  go_ret2
  exact ⟨rfl, HD.out⟩
set_option maxRecDepth 100000 in
set_option maxHeartbeats 2000000 in
theorem make_yes (w : World) (base g : Nat) (L : List Ent) (av : Nat → Prop) (r p u : Int) (h : OneAt w base g L av) (hb : base ≤ w.heap.size) (hL : L.length ≤ 100000) (hm : mayF r p u = true) :
    Calls Try.prog 28 #[.pointer (some ⟨g, 0, none⟩), .int .i64 r, .int .i64 p, .int .i64 u] w fun e w' => ∃ v s, e = .returned (.tuple #[v, .int .i64 0]) ∧ (Kd.int .u8).R 5 w' s (fun k => s ≤ k ∧ k < w'.heap.size) v (vouchI r p u (mintF L r (textL [r, p, u])).1) ∧ w.heap.size ≤ s ∧ OneAt w' base g (mintF L r (textL [r, p, u])).2.2 (fun k => av k ∨ (s ≤ k ∧ k < w'.heap.size)) ∧ Below base w w' ∧ ∀ b, av b → w'.heap[b]? = w.heap[b]? := by
  have KM := may_calls w r p u
  rw [hm] at KM
  have KM := Lib.hid KM
  have HM := Lib.hid hm
  have hmm := (mayF_iff r p u).1 hm
  obtain ⟨⟨tag, e, L'⟩, hmint⟩ : ∃ q, mintF L r (textL [r, p, u]) = q := ⟨_, rfl⟩
  have hmy := mint_may (L := L) (t := textL [r, p, u]) hmm.1 hmm.2.1
  rw [hmint] at hmy ⊢
  dsimp only at hmy ⊢
  obtain ⟨rfl, ht1, ht2⟩ := hmy
  have hav : ∀ k, av k → k < w.heap.size := fun k hk => by obtain ⟨_, _, _, h3⟩ := h; exact (h3 k hk).1
  have H := Lib.hid h
  have HAV := Lib.hid hav
  have HMI := Lib.hid hmint
  have htl := text3_len r p u
  clear h hm hmm hmint hav
  go_enter Try.func28, Try.ntmps28
  go_upto_region 3 with (go_at_call 45; with_reducible refine KM.out.mono ?_; rintro e w6 ⟨rfl, hd6⟩; have HB6 := Lib.hid hd6.below; have HS6 := Lib.hid (drawn_size hd6); clear hd6)
  have KT := Lib.hid (text_lit w6 r p u HM.out)
  go_upto_region 4 with (go_at_call 31; with_reducible refine KT.out.mono ?_; rintro e w7 ⟨A7, m7, c7, rfl, hm7, hc7, hR7, hb7⟩; have HM7 := Lib.hid hm7; have HR7 := Lib.hid hR7; have HB67 := Lib.hid hb7; clear hm7 hR7 hb7)
  have HB7 := Lib.hid (show Below w.heap.size w w7 from HB6.out.trans (by rw [← HS6.out]; exact HB67.out))
  have H7 := Lib.hid (H.out.step HB7.out)
  have K8 := Lib.hid (one_mint_n w7 base g L _ r A7 m7 c7 (textL [r, p, u]) HM7.out H7.out (Nat.le_trans hb HB7.out.size) (R_C HR7.out).1 hc7 (text_fine HM.out) (by omega))
  rw [HMI.out] at K8
  dsimp only at K8
  have hR7s := HR7.out
  rw [HS6.out] at hR7s
  have HR7s := Lib.hid hR7s
  clear hR7s
  go_upto_region 7 with (go_at_call 46; with_reducible refine K8.out.mono ?_; rintro e w8 ⟨rfl, h8, hb8, hk8⟩; have H8 := Lib.hid h8; have HB8 := Lib.hid hb8; have HK8 := Lib.hid hk8; clear h8 hb8 hk8)
  have HR8 := Lib.hid (R_moved HR7s.out (fun k h1 h2 => HK8.out k (.inr ⟨h1, h2⟩)))
  have K9 := Lib.hid (show Calls Try.prog 47 #[.slice A7 m7 c7] w8 fun e w' => ∃ v0, e = .returned (.tuple #[v0, .int .i64 0]) ∧ (Kd.int .u8).R 5 w' w8.heap.size (fun _ => True) v0 (frameI (textL [r, p, u])) ∧ Below w8.heap.size w8 w' from by
    have h1 := R_C HR8.out
    have h2 := h1.1
    have h3 := hc7
    rw [HM7.out] at h2 h3 ⊢
    exact fput_calls w8 A7 c7 (textL [r, p, u]) h2 h3 (by omega))
  go_upto_region 8 with (go_at_call 47; with_reducible refine K9.out.mono ?_; rintro e w9 ⟨v9, rfl, hR9, hb9⟩; have HR9 := Lib.hid hR9; have HB9 := Lib.hid hb9; clear hR9 hb9)
  have K10 := Lib.hid (uput_calls w9 tag (by omega) (by omega))
  obtain ⟨A9, c9, hv9, _⟩ := Kd.R_reads HR9.out
  obtain ⟨m9, hm9⟩ : ∃ m, (frameI (textL [r, p, u])).length = m := ⟨_, rfl⟩
  obtain ⟨mt, hmt⟩ : ∃ m, (putI tag).length = m := ⟨_, rfl⟩
  have hmt0 : 0 < mt := by rw [← hmt]; exact putI_pos (by omega)
  have hmt9 : mt ≤ 9 := by rw [← hmt]; exact putI_len_le tag
  have hm9l : m9 ≤ 40 := by rw [← hm9]; unfold frameI; rw [List.length_append]; have := putI_len_le ((textL [r, p, u]).length : Int); omega
  rw [hm9] at hv9
  subst hv9
  have HM9 := Lib.hid hm9
  have HMT := Lib.hid hmt
  clear hm9 hmt
  go_wp2_with (first
    | (go_at_call 48; with_reducible refine K10.out.mono ?_; rintro e w10 ⟨v10, rfl, hR10, hb10⟩; obtain ⟨A10, c10, hv10, hc10, hC10⟩ := Kd.R_reads hR10; rw [HMT.out] at hv10 hC10; subst hv10; have HC10 := Lib.hid hC10; have HR10 := Lib.hid (Kd.R_below HR9.out hb10); have HB10 := Lib.hid (HB9.out.trans (hb10.mono HB9.out.size)); clear hR10 hb10 hC10)
    | ((with_reducible refine gate_builtin (b := .append) (xs := #[.tmp 39, .tmp 41]) rfl ?_); at_builtin; refine append_apd (w0 := w8) w8.heap.size rfl (.tmp 39) (.tmp 41) rfl (.slice A9 m9 c9) (frameI (textL [r, p, u])) (putI tag) A10 mt c10 rfl rfl (.inl HR10.out) HC10.out hmt0 HB10.out HB10.out.size (by have := HM9.out; omega) ?_; intro v11 w11 ho11 hb11; have HO11 := Lib.hid ho11; have HB11 := Lib.hid hb11; clear ho11 hb11))
  go_ret2
  refine ⟨v11, w8.heap.size, rfl, R_own HO11.out, Nat.le_trans HB7.out.size HB8.out.size, (H8.out.step HB11.out).sub ?_, ?_, ?_⟩
  · rintro k (hk | hk)
    · exact .inl (.inl hk)
    · exact .inr hk
  · exact (HB7.out.mono hb).trans (HB8.out.trans (HB11.out.mono (Nat.le_trans hb (Nat.le_trans HB7.out.size HB8.out.size))))
  · intro b hb'
    have h1 := HAV.out b hb'
    have h2 := HB7.out.size
    have h3 := HB8.out.size
    exact (HB11.out.block b (by omega)).trans ((HK8.out b (.inl hb')).trans (HB7.out.block b h1))
theorem make_calls (w : World) (base g : Nat) (L : List Ent) (av : Nat → Prop) (r p u : Int) (h : OneAt w base g L av) (hb : base ≤ w.heap.size) (hL : L.length ≤ 100000) :
    Calls Try.prog 28 #[.pointer (some ⟨g, 0, none⟩), .int .i64 r, .int .i64 p, .int .i64 u] w fun e w' => ∃ v s, e = .returned (.tuple #[v, .int .i64 (makeF L r p u).2.1]) ∧ (Kd.int .u8).R 5 w' s (fun k => s ≤ k ∧ k < w'.heap.size) v (makeF L r p u).1 ∧ w.heap.size ≤ s ∧ OneAt w' base g (makeF L r p u).2.2 (fun k => av k ∨ (s ≤ k ∧ k < w'.heap.size)) ∧ Below base w w' ∧ ∀ b, av b → w'.heap[b]? = w.heap[b]? := by
  unfold makeF
  by_cases hm : mayF r p u = true
  · rw [if_pos hm]
    exact make_yes w base g L av r p u h hb hL hm
  · rw [if_neg hm]
    refine (make_no w g r p u hm).mono ?_
    rintro e w' ⟨rfl, hd⟩
    have hbl := hd.below
    refine ⟨_, w.heap.size, rfl, R_own (Kd.R_nil _ _ _ _ _), Nat.le_refl _, h.step hbl, hbl.mono hb, fun b hb' => hbl.block b ?_⟩
    obtain ⟨_, _, _, h3⟩ := h
    exact (h3 b hb').1
theorem checkV_bad {L : List Ent} {b : List Int} {relay peer now : Int} (h : readV b = (0, 0, 0, 0, 3)) : checkV L b relay peer now = (0, 3) := by unfold checkV; rw [h]; rfl
theorem checkV_good {L : List Ent} {b : List Int} {relay peer now r p u tag : Int} (h : readV b = (r, p, u, tag, 0)) : checkV L b relay peer now = if r ≠ relay ∨ p ≠ peer then (0, 7) else if checkF L r (textL [r, p, u]) tag ≠ 0 then (0, 12) else if u ≤ now then (0, 11) else (u, 0) := by unfold checkV; rw [h]; rfl
set_option maxRecDepth 100000 in
set_option maxHeartbeats 2000000 in
theorem vcheck_calls (w : World) (base g : Nat) (L : List Ent) (av : Nat → Prop) (A : Option Addr) (n c : Nat) (b : List Int) (relay peer now : Int) (h : OneAt w base g L av) (hL : L.length ≤ 100000)
    (hn : n = b.length) (hr : Kd.C (Kd.int .u8) w A n b) (hc : n ≤ c) (hb : Bytes b) (hl : n ≤ 1000000) :
    Calls Try.prog 13 #[.pointer (some ⟨g, 0, none⟩), .slice A n c, .int .i64 relay, .int .i64 peer, .int .i64 now] w fun e w' => e = .returned (.tuple #[.int .i64 (checkV L b relay peer now).1, .int .i64 (checkV L b relay peer now).2]) ∧ Below w.heap.size w w' := by
  have KR := read_calls w A n c b hn hr hc hb hl
  rcases readV_cases b with ⟨r, p, u, tag, hg, hv⟩ | ⟨hno, hv⟩
  · rw [readR_good hg] at KR
    rw [checkV_good hv]
    have htag := hg.2.1
    have htag2 := hg.2.2.1
    have HM := Lib.hid hg.1
    have KR := Lib.hid KR
    have H := Lib.hid h
    clear hv hg hr hb h hn
    by_cases h1 : r = relay
    · by_cases h2 : p = peer
      · subst h1 h2
        have b1 : (r != r) = false := by simp
        have b2 : (p != p) = false := by simp
        rw [if_neg (by simp)]
        obtain ⟨cf, hcf⟩ : ∃ q, checkF L r (textL [r, p, u]) tag = q := ⟨_, rfl⟩
        rw [hcf]
        have HCF := Lib.hid hcf
        obtain ⟨q, hq⟩ : ∃ q : Int × Int, (if cf ≠ 0 then (0, 12) else if u ≤ now then (0, 11) else (u, 0)) = q := ⟨_, rfl⟩
        rw [hq]
        have HQ := Lib.hid hq
        clear hcf hq
        go_enter Try.func13, Try.ntmps13
        go_upto_region 6 with (go_at_call 29; with_reducible refine KR.out.mono ?_; rintro e1 w1 ⟨rfl, hb1⟩; have HB1 := Lib.hid hb1; clear hb1)
        have KT := Lib.hid (text_lit w1 r p u HM.out)
        have K8 := Lib.hid (fun (W : World) (A7 : Option Addr) (m7 c7 : Nat) (hb7 : Below w1.heap.size w1 W) (hm7 : m7 = (textL [r, p, u]).length) (hC7 : Kd.C (Kd.int .u8) W A7 m7 (textL [r, p, u])) (hc7 : m7 ≤ c7) =>
          one_check_n W base g L _ r A7 m7 c7 (textL [r, p, u]) tag hm7 ((H.out.step HB1.out).step' hb7) hC7 hc7 (text_fine HM.out) (by omega) ⟨htag, by omega⟩)
        rw [HCF.out] at K8
        by_cases h3 : cf = 0
        · subst h3
          have b3 : ((0 : Int) != 0) = false := rfl
          by_cases h4 : u ≤ now
          · have b4 : decide (u ≤ now) = true := decide_eq_true h4
            have hq := HQ.out
            rw [if_neg (by simp), if_pos h4] at hq
            subst hq
            clear h4
            go_wp2_with (first
              | (go_at_call 31; with_reducible refine KT.out.mono ?_; rintro e w7 ⟨A7, m7, c7, rfl, hm7, hc7, hR7, hb7⟩; have HM7 := Lib.hid hm7; have HR7 := Lib.hid hR7; have HB7 := Lib.hid hb7; clear hm7 hR7 hb7)
              | (go_at_call 30; refine (K8.out w7 A7 m7 c7 HB7.out HM7.out (R_C HR7.out).1 hc7).mono ?_; rintro e w8 ⟨rfl, n8, rfl⟩))
            go_ret2
            exact ⟨rfl, HB1.out.trans ((below_drN HB7.out n8).mono HB1.out.size)⟩
          · have b4 : decide (u ≤ now) = false := decide_eq_false h4
            have hq := HQ.out
            rw [if_neg (by simp), if_neg h4] at hq
            subst hq
            clear h4
            go_wp2_with (first
              | (go_at_call 31; with_reducible refine KT.out.mono ?_; rintro e w7 ⟨A7, m7, c7, rfl, hm7, hc7, hR7, hb7⟩; have HM7 := Lib.hid hm7; have HR7 := Lib.hid hR7; have HB7 := Lib.hid hb7; clear hm7 hR7 hb7)
              | (go_at_call 30; refine (K8.out w7 A7 m7 c7 HB7.out HM7.out (R_C HR7.out).1 hc7).mono ?_; rintro e w8 ⟨rfl, n8, rfl⟩))
            go_ret2
            exact ⟨rfl, HB1.out.trans ((below_drN HB7.out n8).mono HB1.out.size)⟩
        · have b3 : (cf != 0) = true := by simpa using h3
          have hq := HQ.out
          rw [if_pos h3] at hq
          subst hq
          clear h3
          go_wp2_with (first
            | (go_at_call 31; with_reducible refine KT.out.mono ?_; rintro e w7 ⟨A7, m7, c7, rfl, hm7, hc7, hR7, hb7⟩; have HM7 := Lib.hid hm7; have HR7 := Lib.hid hR7; have HB7 := Lib.hid hb7; clear hm7 hR7 hb7)
            | (go_at_call 30; refine (K8.out w7 A7 m7 c7 HB7.out HM7.out (R_C HR7.out).1 hc7).mono ?_; rintro e w8 ⟨rfl, n8, rfl⟩))
          go_ret2
          exact ⟨rfl, HB1.out.trans ((below_drN HB7.out n8).mono HB1.out.size)⟩
      · subst h1
        have b1 : (r != r) = false := by simp
        have b2 : (p != peer) = true := by simpa using h2
        rw [if_pos (.inr h2)]
        clear h2
        go_enter Try.func13, Try.ntmps13
        go_wp2_with (go_at_call 29; with_reducible refine KR.out.mono ?_; rintro e1 w1 ⟨rfl, hb1⟩; have HB1 := Lib.hid hb1; clear hb1)
        go_ret2
        exact ⟨rfl, HB1.out⟩
    · have b1 : (r != relay) = true := by simpa using h1
      rw [if_pos (.inl h1)]
      clear h1
      go_enter Try.func13, Try.ntmps13
      go_wp2_with (go_at_call 29; with_reducible refine KR.out.mono ?_; rintro e1 w1 ⟨rfl, hb1⟩; have HB1 := Lib.hid hb1; clear hb1)
      go_ret2
      exact ⟨rfl, HB1.out⟩
  · rw [readR_bad hno] at KR
    rw [checkV_bad hv]
    have KR := Lib.hid KR
    clear hv hno hr hb h hn
    go_enter Try.func13, Try.ntmps13
    go_wp2_with (go_at_call 29; with_reducible refine KR.out.mono ?_; rintro e1 w1 ⟨rfl, hb1⟩; have HB1 := Lib.hid hb1; clear hb1)
    go_ret2
    exact ⟨rfl, HB1.out⟩
end Go.Proofs.Yteajlffchdbkjaa.By
