/-
  The notary's own functions (New, Mint, Check, Count): what each answers and what it leaves, whatever entries it holds. Conditions: the entries' texts are bytes, there are at most a million.
-/
import Derived.Test.YtmidmdbhbhjcdaaProg
import Derived.Below
import Derived.Deep.Draws
import Derived.Deep.AppendLies
import Derived.Maps.AppendAt
import Derived.Maps.OwnSet
import Derived.DeepKeys4
import Derived.OwnWalk
import Derived.Laws.BytesArg
import Derived.Laws.OwnMore
import Derived.Tactics
import Derived.Lib.ConvBytes
import Derived.Laws.Slices
import Derived.WalkKit
import Derived.KernelRfl
import Derived.RowKit3
import Derived.Deep.LoopGhost
import Derived.Deep.QuietTactic
import Derived.BigQuiet
import Derived.BigRegion
import Derived.WideLaws
import Derived.Deep.RegionLaw
import Derived.Deep.Cut
import Derived.Deep.DeepCutAuto
import Derived.RowKit
import Derived.Lib.Hide
import Derived.Test.YtmidmdbhbhjcdaaWWords
import Derived.Test.YtmidmdbhbhjcdaaWLast
import Derived.Test.YtmidmdbhbhjcdaaWMore
import Derived.Test.YtmidmdbhbhjcdaaWEqStruct
namespace Go.Proofs.Ytmidmdbhbhjcdaa.Nt
open Go.RowKit Go.Maps Go.Proofs.YtmidmdbhbhjcdaaW.PrintWords Go.Proofs.YtmidmdbhbhjcdaaW.PrintLast Go.Proofs.YtmidmdbhbhjcdaaW.PrintMore
set_option linter.unusedVariables false
set_option linter.unusedSimpArgs false

/-! ### bytes as a string -/
theorem str_size (l : List Int) : (strOfNums l).size = l.length := by simp [strOfNums, ByteArray.size]
theorem str_inj {l l' : List Int} (h : ∀ b ∈ l, 0 ≤ b ∧ b ≤ 255) (h' : ∀ b ∈ l', 0 ≤ b ∧ b ≤ 255) (e : strOfNums l = strOfNums l') : l = l' := by
  have e1 : (l.map fun n => UInt8.ofNat n.toNat) = (l'.map fun n => UInt8.ofNat n.toNat) := by
    have := congrArg (fun s : ByteArray => s.data.toList) e
    simpa [strOfNums] using this
  clear e
  induction l generalizing l' with
  | nil => cases l' with
    | nil => rfl
    | cons y ys => simp at e1
  | cons x xs ih => cases l' with
    | nil => simp at e1
    | cons y ys =>
      simp only [List.map_cons, List.cons.injEq] at e1
      have hx := h x (by simp)
      have hy := h' y (by simp)
      have e2 := congrArg UInt8.toNat e1.1
      simp only [UInt8.toNat_ofNat'] at e2
      have : x = y := by omega
      rw [this, ih (fun b hb => h b (by simp [hb])) (fun b hb => h' b (by simp [hb])) e1.2]

/-! ### an entry -/
abbrev Ent := Int × List Int
def fine (x : Ent) : Prop := (-9223372036854775808 ≤ x.1 ∧ x.1 ≤ 9223372036854775807) ∧ (∀ b ∈ x.2, 0 ≤ b ∧ b ≤ 255) ∧ x.2.length ≤ 140737488355328
def dE : Kd (Int × ByteArray) := Kd.pair (Kd.int .i64) Kd.string
def en (x : Ent) : Int × ByteArray := (x.1, strOfNums x.2)
def keyV (x : Ent) : Value := .agg #[.int .i64 x.1, .string (strOfNums x.2)]
theorem en_inj {x y : Ent} (hx : fine x) (hy : fine y) (e : en x = en y) : x = y := by
  obtain ⟨p, l⟩ := x
  obtain ⟨q, m⟩ := y
  simp only [en, Prod.mk.injEq] at e
  have e2 : l = m := str_inj hx.2.1 hy.2.1 e.2
  rw [e.1, e2]
theorem keyV_inj {x y : Ent} (hx : fine x) (hy : fine y) (e : keyV x = keyV y) : x = y := by
  simp only [keyV, Value.agg.injEq, Array.mk.injEq, List.cons.injEq, Value.int.injEq, Value.string.injEq, true_and, and_true] at e
  exact en_inj hx hy (by simp [en, e.1, e.2])
theorem laidOut : laidOutB Try.prog = true := by kernel_rfl
theorem rowE : (58 : TypeId) < Try.prog.types.size := of_decide_eq_true (by kernel_rfl)
theorem wideE : (match Try.prog.underlying 58 with | some (.array _ _) | some (.struct _) => true | _ => false) = true := by rw [Try.underlying58]
theorem law : Keyed Try.prog 58 := Keyed.of_law (deep_law_laid laidOut (m := 2) (by omega) rowE (by kernel_rfl) wideE)
theorem key_some (x : Ent) (h : fine x) : ∃ kl, keyOf Try.prog 58 (keyV x) = some kl := by
  have hk : Try.prog.keyType 58 = true := by kernel_rfl
  have hc : Try.prog.cellsOf 58 = 2 := by kernel_rfl
  have h3 : Try.prog.cellsOf 3 = 1 := by kernel_rfl
  have h9 : Try.prog.cellsOf 9 = 1 := by kernel_rfl
  obtain ⟨n, hn⟩ : ∃ n, Try.prog.types.size + 1 = n + 2 := ⟨Try.prog.types.size - 1, by have : 1 ≤ Try.prog.types.size := of_decide_eq_true (by kernel_rfl); omega⟩
  have hw : (Lit.int .i64 x.1).wf = true := WalkArith.wf_i64 (by have := h.1; omega)
  have hs : (strOfNums x.2).size ≤ maxLen := by rw [str_size]; have := h.2.2; unfold maxLen; omega
  have hf : (keyV x).formed Try.prog 58 = true := by
    unfold keyV Value.formed
    rw [Try.underlying58, hc]
    rfl
  unfold keyOf
  rw [Try.underlying58, hk, hf, hn]
  have e3 : Try.prog.keyLits (n + 1) 3 [.int .i64 x.1] = some [.int .i64 x.1] := by
    unfold Program.keyLits
    rw [Try.underlying3]
    show (if IntKind.i64 = IntKind.i64 ∧ (Lit.int .i64 x.1).wf = true then _ else _) = _
    rw [if_pos ⟨rfl, hw⟩]
  have e9 : Try.prog.keyLits (n + 1) 9 [.string (strOfNums x.2)] = some [.string (strOfNums x.2).data.toList] := by
    unfold Program.keyLits
    rw [Try.underlying9]
    show (if (strOfNums x.2).size ≤ maxLen then _ else _) = _
    rw [if_pos hs]
  show ∃ kl, (Option.map (fun ls => Lit.string (keyBytes ls)) (Try.prog.keyLits (n + 1 + 1) 58 [.int .i64 x.1, .string (strOfNums x.2)])) = some kl
  rw [Program.keyLits.eq_def]
  dsimp only
  rw [Try.underlying58, hc]
  dsimp only
  rw [if_pos ⟨rfl, by kernel_rfl⟩]
  simp only [List.mapM_cons, List.mapM_nil, h3, h9, List.drop_zero, List.drop_succ_cons, List.take_succ_cons, List.take_zero, e3, e9]
  exact ⟨_, rfl⟩
noncomputable def kl (x : Ent) : Lit := (keyOf Try.prog 58 (keyV x)).getD (.bool false)
theorem key_kl {x : Ent} (h : fine x) : keyOf Try.prog 58 (keyV x) = some (kl x) := by
  obtain ⟨k, hk⟩ := key_some x h
  rw [kl, hk, Option.getD_some]
theorem kl_inj {x y : Ent} (hx : fine x) (hy : fine y) (e : kl x = kl y) : x = y := by
  have h1 := key_kl hx
  have h2 := key_kl hy
  rw [← e] at h2
  exact keyV_inj hx hy (law.inj h1 h2)
theorem kl_key {x : Ent} (h : fine x) : WideAt.IsKeyLit (kl x) := law.key (key_kl h)

/-! ### what the map holds -/
def z64 : DataW Unit := .lit (.int .u64 0)
def Agr (D : DataW Unit) (L : List Ent) : Prop :=
  IsMap D ∧ ∀ x, fine x → (x ∈ L → Maps.has D (kl x) = true ∧ D.atKey (kl x) z64 = .lit (.int .u64 (L.idxOf x + 1))) ∧ (x ∉ L → Maps.has D (kl x) = false)
theorem agr_nil : Agr (.map []) [] := ⟨isMap_empty, fun x _ => ⟨fun h => by simp at h, fun _ => rfl⟩⟩
theorem agr_snoc {D : DataW Unit} {L : List Ent} (h : Agr D L) (hL : ∀ x ∈ L, fine x) {x : Ent} (hx : fine x) (hn : x ∉ L) : Agr (D.put (kl x) (.lit (.int .u64 (L.length + 1)))) (L ++ [x]) := by
  refine ⟨h.1.put _ _, fun y hy => ⟨fun hm => ?_, fun hm => ?_⟩⟩
  · by_cases e : y = x
    · subst e
      refine ⟨has_put_same h.1 (kl_key hx) _, ?_⟩
      rw [atKey_put_same h.1 (kl_key hx), List.idxOf_append, if_neg hn]
      simp
    · have hyL : y ∈ L := by
        rcases List.mem_append.1 hm with hm | hm
        · exact hm
        · exact absurd (List.mem_singleton.1 hm) e
      have hk : kl y ≠ kl x := fun he => e (kl_inj hy hx he)
      rw [has_put_other hk, atKey_put_other hk, List.idxOf_append, if_pos hyL]
      exact (h.2 y hy).1 hyL
  · have e : y ≠ x := fun e => hm (by simp [e])
    have hk : kl y ≠ kl x := fun he => e (kl_inj hy hx he)
    rw [has_put_other hk]
    exact (h.2 y hy).2 (fun hyL => hm (by simp [hyL]))

/-! ### a notary in memory: the blocks that are its own are among ok's -/
def NotAt (w : World) (base : Nat) (ok : Nat → Prop) (g : Nat) (L : List Ent) : Prop :=
  ∃ (B : Nat) (v : Value) (D : DataW Unit), w.heap[g]? = some (.cells #[.map (some B), v] 56 (0, 0)) ∧ (ok g ∧ ok B ∧ base ≤ g ∧ base ≤ B) ∧
    w.ownsMap Try.prog 58 (plainElem Try.prog 34) B L.length D ∧ Agr D L ∧ dE.R 58 w base ok v (L.map en) ∧ ∀ x ∈ L, fine x
/-- Off ok's blocks all lies as it lay. -/
def Off (ok : Nat → Prop) (w w' : World) : Prop := w.heap.size ≤ w'.heap.size ∧ ∀ b, b < w.heap.size → ¬ ok b → w'.heap[b]? = w.heap[b]?
theorem Off.refl (ok : Nat → Prop) (w : World) : Off ok w w := ⟨Nat.le_refl _, fun _ _ _ => rfl⟩
theorem Off.trans {ok : Nat → Prop} {a b c : World} (h : Off ok a b) (k : Off ok b c) : Off ok a c := ⟨Nat.le_trans h.1 k.1, fun i hi hn => (k.2 i (Nat.lt_of_lt_of_le hi h.1) hn).trans (h.2 i hi hn)⟩
theorem Off.alloc (ok : Nat → Prop) (w : World) (o : Obj) : Off ok w (w.alloc o) := by
  have h : Below w.heap.size w (w.alloc o) := (Below.refl _ _).alloc (Nat.le_refl _) _
  exact ⟨h.size, fun b hb _ => h.block b hb⟩
theorem Off.grown {ok : Nat → Prop} {a b : World} {row : Option Nat} (hg : a.grownBy b row) (hr : ∀ k, row = some k → ok k) : Off ok a b := ⟨hg.size, fun i hi hn => hg.block i hi (fun e => hn (hr i e.symm))⟩
theorem Off.set {ok : Nat → Prop} (w : World) {p : Addr} (hp : ok p.block) (v : Value) : Off ok w (w.setCell p v) :=
  ⟨by simp [World.setCell], fun b _ hn => Below.heap_setCell _ _ _ _ (fun e => hn (e ▸ hp))⟩
theorem NotAt.mono {w : World} {base : Nat} {ok ok' : Nat → Prop} {g : Nat} {L : List Ent} (h : NotAt w base ok g L) (ho : ∀ k, ok k → ok' k) : NotAt w base ok' g L := by
  obtain ⟨B, v, D, h1, ⟨h2, h3, h4⟩, h5, h6, h7, h8⟩ := h
  exact ⟨B, v, D, h1, ⟨ho _ h2, ho _ h3, h4⟩, h5, h6, Kd.R_mono h7 ho, h8⟩
theorem map_move {w w1 : World} {P : Program} {k n b : Nat} {R : Value → Option (DataW Unit × List MemPlace)} {D : DataW Unit} (h : w.ownsMap P k R b n D) (hm : w1.heap[b]? = w.heap[b]?) : w1.ownsMap P k R b n D := by
  obtain ⟨es, clock, hb, r⟩ := h
  exact ⟨es, clock, hm.trans hb, r⟩
theorem NotAt.step {w w1 : World} {base : Nat} {ok : Nat → Prop} {g : Nat} {L : List Ent} (h : NotAt w base ok g L) (hm : ∀ k, ok k → k < w.heap.size → w1.heap[k]? = w.heap[k]?) : NotAt w1 base ok g L := by
  obtain ⟨B, v, D, h1, ⟨h2, h3, h4⟩, h5, h6, h7, h8⟩ := h
  exact ⟨B, v, D, (hm g h2 (Array.getElem?_eq_some_iff.1 h1).1).trans h1, ⟨h2, h3, h4⟩, map_move h5 (hm B h3 h5.lt), h6, Kd.R_step h7 hm, h8⟩
theorem NotAt.bound {w : World} {base : Nat} {ok : Nat → Prop} {g : Nat} {L : List Ent} (h : NotAt w base ok g L) : NotAt w base (fun k => ok k ∧ base ≤ k ∧ k < w.heap.size) g L := by
  obtain ⟨B, v, D, h1, ⟨h2, h3, h4, h4'⟩, h5, h6, h7, h8⟩ := h
  exact ⟨B, v, D, h1, ⟨⟨h2, h4, (Array.getElem?_eq_some_iff.1 h1).1⟩, ⟨h3, h4', h5.lt⟩, h4, h4'⟩, h5, h6, Kd.R_mono (Kd.R_bound h7) (fun k hk => ⟨hk.1, hk.2.1, hk.2.2.1⟩), h8⟩

/-! ### what the functions answer -/
def mintF (L : List Ent) (p : Int) (t : List Int) : Int × Int × List Ent :=
  if p < 1 ∨ 2147483647 < p then (0, 1, L) else if (p, t) ∈ L then (L.idxOf (p, t) + 1, 0, L) else (L.length + 1, 0, L ++ [(p, t)])
def checkF (L : List Ent) (p : Int) (t : List Int) (tag : Int) : Int :=
  if tag < 1 ∨ (L.length : Int) < tag then 12 else if L[(tag - 1).toNat]? = some (p, t) then 0 else 12

/-! ### the walks -/
theorem infoE : (Try.prog.info? 58).map (fun i => (i.zero, i.size, i.bytes)) = some (some (.agg #[.int .i64 0, .string ByteArray.empty]), 2, 24) := by kernel_rfl
theorem zeroU (w : World) : (zeroValue 34).run Try.prog w = .ok (.int .u64 0) w := by kernel_rfl
theorem frozen_of_block {w w1 : World} {p : Addr} (h : w1.heap[p.block]? = w.heap[p.block]?) : w1.frozen? p = w.frozen? p := by unfold World.frozen?; rw [h]
theorem cell_cells2 {w : World} {g t : Nat} {cs : Array Value} (h : w.heap[g]? = some (.cells cs t (0, 0))) (j : Nat) (hj : j < cs.size) : w.cell? ⟨g, j, none⟩ = some cs[j] := by unfold World.cell?; rw [h]; simp [hj]
theorem frozen_cells2 {w : World} {g t : Nat} {cs : Array Value} (h : w.heap[g]? = some (.cells cs t (0, 0))) (j : Nat) : w.frozen? ⟨g, j, none⟩ = false := by unfold World.frozen?; rw [h]; simp
theorem set_cells2 {w : World} {g t : Nat} {x y z : Value} (h : w.heap[g]? = some (.cells #[x, y] t (0, 0))) : (w.setCell ⟨g, 1, none⟩ z).heap[g]? = some (.cells #[x, z] t (0, 0)) := by
  unfold World.setCell
  show (w.heap.modify g _)[g]? = _
  rw [Array.getElem?_modify, if_pos rfl, h]
  rfl
theorem wf_u64 {a : Int} (h : 0 ≤ a ∧ a ≤ 18446744073709551615) : (Lit.int .u64 a).wf = true := by
  simp [Lit.wf, IntKind.min, IntKind.max, IntKind.signed, IntKind.bits]
  omega
theorem Boxed2 (w : World) (t : TypeId) (cs : Array Value) : (w.alloc (.cells cs t)).heap[w.heap.size]? = some (.cells cs t (0, 0)) := (MapKept.heap_alloc w (.cells cs t)).1
theorem new_calls (w : World) : Calls Try.prog 8 #[] w fun e w' => ∃ g, e = .returned (.pointer (some ⟨g, 0, none⟩)) ∧ NotAt w' w.heap.size (fun k => w.heap.size ≤ k ∧ k < w'.heap.size) g [] ∧ Below w.heap.size w w' := by
  have hmm := @run_makeMap Try.prog
  go_enter Try.func8, Try.ntmps8
  go_wp2
  go_ret
  have hb : Below w.heap.size w ((w.alloc (.map #[] 0)).alloc (.cells #[.map (some w.heap.size), .slice none 0 0] 56)) := ((Below.refl _ w).alloc (Nat.le_refl _) _).alloc (by simp) _
  have hn := Boxed2 (w.alloc (.map #[] 0)) 56 #[.map (some w.heap.size), .slice none 0 0]
  rw [World.size_alloc] at hn
  have hm := (World.ownsMap_made (H := Unit) w Try.prog 58 (plainElem Try.prog 34)).alloc (.cells #[.map (some w.heap.size), .slice none 0 0] 56)
  refine ⟨w.heap.size + 1, rfl, ⟨w.heap.size, .slice none 0 0, _, hn, ⟨⟨by omega, by simp⟩, ⟨by omega, by simp only [World.size_alloc]; omega⟩, by omega, by omega⟩, hm, agr_nil, Kd.R_nil _ _ _ _ _, fun x hx => by simp at hx⟩, hb⟩
theorem count_calls (w : World) (base : Nat) (ok : Nat → Prop) (g : Nat) (L : List Ent) (h : NotAt w base ok g L) : Calls Try.prog 18 #[.pointer (some ⟨g, 0, none⟩)] w fun e w' => e = .returned (.int .i64 L.length) ∧ w = w' := by
  obtain ⟨B, v, D, h1, h2, h5, h6, h7, h8⟩ := h
  obtain ⟨A, c, rfl, _, _⟩ := Kd.R_reads h7
  have c1 : w.cell? ⟨g, 1, none⟩ = some (.slice A L.length c) := by unfold World.cell?; rw [h1]; simp
  go_enter Try.func18, Try.ntmps18
  go_wp2
  go_ret
  exact ⟨rfl, rfl⟩

/-- Behind the append and its store. -/
def MidM (w wx : World) (base : Nat) (ok : Nat → Prop) (g B : Nat) (L : List Ent) (x : Ent) (s : ByteArray) : Prop :=
  ∃ A5 cp5, wx.heap[g]? = some (.cells #[.map (some B), .slice A5 (L.length + 1) cp5] 56 (0, 0)) ∧ dE.R 58 wx base ok (.slice A5 (L.length + 1) cp5) (L.map en ++ [en x]) ∧ Below base w wx ∧ Off ok w wx ∧ wx.heap[B]? = w.heap[B]? ∧
    wx.heap[w.heap.size]? = some (.cells #[.int .i64 x.1, .string s] 58 (0, 0))
theorem R_map {α : Type} {d : Kd α} {e : Nat} {w w1 : World} {base : Nat} {ok : Nat → Prop} {v : Value} {xs : List α} {B : Nat} (h : d.R e w base ok v xs) (hB : ∃ es c, w.heap[B]? = some (.map es c)) (hg : w.grownBy w1 (some B)) : d.R e w1 base ok v xs := by
  obtain ⟨es, c, hB⟩ := hB
  exact Kd.R_mono (Kd.R_step (Kd.R_bound h) (fun k hk hlt => hg.block k hlt (fun e => by
    injection e with e
    obtain ⟨_, _, _, q, _, cells, hc⟩ := hk
    rw [e, hB] at hc
    cases hc))) (fun k hk => hk.1)
theorem dE_E (q : Nat) (hq : q ∈ (58 : Nat) :: dE.E) : q ≠ 56 := by
  have h : dE.E = [] := rfl
  rw [h, List.mem_singleton] at hq
  rw [hq]
  decide
theorem midM_mk {w W w5 : World} {base : Nat} {ok : Nat → Prop} {g B : Nat} {L : List Ent} {x : Ent} {s : ByteArray} {v : Value} {A5 : Option Addr} {cp5 : Nat} (hgok : ok g) (hbg : base ≤ g) (hB : ∃ es c, w.heap[B]? = some (.map es c))
    (h7 : dE.R 58 w base ok v (L.map en)) (hW : Below w.heap.size w W) (hWs : w.heap.size < W.heap.size) (hWg : W.heap[g]? = some (.cells #[.map (some B), v] 56 (0, 0))) (hWe : W.heap[w.heap.size]? = some (.cells #[.int .i64 x.1, .string s] 58 (0, 0)))
    (ho : dE.R 58 w5 base ok (.slice A5 (L.length + 1) cp5) (L.map en ++ [en x])) (hb5 : Below base w w5) (hg5 : W.grownBy w5 v.ownBlock) (hg : g < w.heap.size) :
    MidM w (w5.setCell ⟨g, 1, none⟩ (.slice A5 (L.length + 1) cp5)) base ok g B L x s := by
  obtain ⟨es, cl, hB⟩ := hB
  have hBlt : B < w.heap.size := (Array.getElem?_eq_some_iff.1 hB).1
  obtain ⟨inner, hown⟩ := Kd.R_own h7
  have hvlt : ∀ k, v.ownBlock = some k → k < w.heap.size := fun k hk => own_lt hown k hk
  have hvty : ∀ k, v.ownBlock = some k → ∃ cells, w.heap[k]? = some (.cells cells 58 (0, 0)) := fun k hk => own_typed hown k hk
  have hgv : some g ≠ v.ownBlock := fun e => by
    obtain ⟨cells, hc⟩ := hvty g e.symm
    have := (hW.block g hg).trans hc
    rw [hWg] at this
    injection this with this
    injection this with _ this
    exact absurd this (by decide)
  have hBv : some B ≠ v.ownBlock := fun e => by
    obtain ⟨cells, hc⟩ := hvty B e.symm
    rw [hB] at hc
    cases hc
  have hEv : some w.heap.size ≠ v.ownBlock := fun e => by have := hvlt _ e.symm; omega
  have h5g := (hg5.block g (by omega) hgv).trans hWg
  have hgB : B ≠ g := fun e => by
    rw [e, ← hW.block g hg, hWg] at hB
    cases hB
  refine ⟨A5, cp5, ?_, Kd.R_set ho h5g dE_E 1 _, hb5.setCell (p := ⟨g, 1, none⟩) hbg _, ?_, ?_, ?_⟩
  · exact set_cells2 h5g
  · have o1 : Off ok w W := ⟨hW.size, fun b hb _ => hW.block b hb⟩
    exact (o1.trans (Off.grown hg5 (fun k hk => h7.1 k hk))).trans (Off.set w5 (p := ⟨g, 1, none⟩) hgok _)
  · rw [Below.heap_setCell _ _ _ _ hgB]
    exact (hg5.block B (by omega) hBv).trans (hW.block B hBlt)
  · rw [Below.heap_setCell _ _ _ _ (by show w.heap.size ≠ g; omega)]
    exact (hg5.block _ hWs hEv).trans hWe
set_option maxRecDepth 100000 in
set_option maxHeartbeats 2000000 in
theorem mint_new (w : World) (base : Nat) (ok : Nat → Prop) (g : Nat) (L : List Ent) (p : Int) (A : Option Addr) (c : Nat) (l : List Int) (h : NotAt w base ok g L) (hfr : ∀ k, w.heap.size ≤ k → ok k) (hb : base ≤ w.heap.size)
    (hp1 : 1 ≤ p) (hp2 : p ≤ 2147483647) (hr : Kd.C (Kd.int .u8) w A l.length l) (hc : l.length ≤ c) (hx : fine (p, l)) (hnot : (p, l) ∉ L) (hL : L.length ≤ 1000000) :
    Calls Try.prog 10 #[.pointer (some ⟨g, 0, none⟩), .int .i64 p, .slice A l.length c] w fun e w' => e = .returned (.tuple #[.int .u64 (L.length + 1), .int .i64 0]) ∧ NotAt w' base ok g (L ++ [(p, l)]) ∧ Below base w w' ∧ Off ok w w' := by
  obtain ⟨B, v, D, h1, ⟨h2, h3, h4, h4'⟩, h5, h6, h7, h8⟩ := h
  obtain ⟨Av, cv, hv, hcv, hCv⟩ := Kd.R_reads h7
  rw [List.length_map] at hv hcv
  subst hv
  have qs := Kd.C_string (src := 22) (dst := 9) (e := 5) (c := c) Try.underlying22 Try.underlying5 Try.underlying9 hr
  obtain ⟨s, hs⟩ : ∃ s, strOfNums l = s := ⟨_, rfl⟩
  rw [hs] at qs
  have c0 : w.cell? ⟨g, 0, none⟩ = some (.map (some B)) := by unfold World.cell?; rw [h1]; simp
  have c1 : w.cell? ⟨g, 1, none⟩ = some (.slice Av L.length cv) := by unfold World.cell?; rw [h1]; simp
  have f1 : w.frozen? ⟨g, 1, none⟩ = false := by unfold World.frozen?; rw [h1]; simp
  have hlook : ∀ (W : World), W.heap[B]? = w.heap[B]? → ∃ v : Int, (Instr.lookup 53 (.map (some B)) (.agg #[.int .i64 p, .string s]) true).run Try.prog W = .ok (.tuple #[.int .u64 v, .bool false]) W := fun W hW => by
    obtain ⟨v, ps, hrun, hv⟩ := (map_move h5 hW).look_ok law Try.underlying53 (zeroU W) (plainElem_int Try.underlying34 (by decide)) (key_kl hx)
    obtain ⟨c, rfl, _, _⟩ := plainElem_int_inv Try.underlying34 hv
    rw [(h6.2 _ hx).2 hnot] at hrun
    rw [← hs]
    exact ⟨c, hrun⟩
  obtain ⟨W1, hW1⟩ : ∃ W1, w.alloc (.cells #[.int .i64 p, .string s] 58) = W1 := ⟨_, rfl⟩
  have hbl : Below w.heap.size w W1 := by rw [← hW1]; exact (Below.refl _ _).alloc (Nat.le_refl _) _
  have hs1 : W1.heap.size = w.heap.size + 1 := by rw [← hW1]; simp
  have hE1 : W1.heap[w.heap.size]? = some (.cells #[.int .i64 p, .string s] 58 (0, 0)) := by rw [← hW1]; exact Boxed2 _ _ _
  obtain ⟨v1, hl1⟩ := hlook W1.drew (hbl.block B h5.lt)
  have hg0 : g < w.heap.size := (Array.getElem?_eq_some_iff.1 h1).1
  have c0 := (World.cell?_of_block (w := w) (a := ⟨g, 0, none⟩) (hbl.block g hg0)).trans c0
  have c1 := (World.cell?_of_block (w := w) (a := ⟨g, 1, none⟩) (hbl.block g hg0)).trans c1
  have f1 := (frozen_of_block (w := w) (p := ⟨g, 1, none⟩) (hbl.block g hg0)).trans f1
  have e0 : W1.cell? ⟨w.heap.size, 0, none⟩ = some (.int .i64 p) := by unfold World.cell?; rw [hE1]; simp
  have e1 : W1.cell? ⟨w.heap.size, 1, none⟩ = some (.string s) := by unfold World.cell?; rw [hE1]; simp
  have HX := Lib.hid hx
  have HN := Lib.hid hnot
  have HR := Lib.hid hr
  have H5 := Lib.hid h5
  have H6 := Lib.hid h6
  have H7 := Lib.hid h7
  have H8 := Lib.hid h8
  have H1 := Lib.hid h1
  have HFR := Lib.hid hfr
  have HS := Lib.hid hs
  clear hx hnot hr h5 h6 h7 h8 h1 hfr hlook hCv hs
  have g1 : decide (p < 1) = false := decide_eq_false (by omega)
  have g2 : decide (2147483647 < p) = false := decide_eq_false (by omega)
  go_enter Try.func10, Try.ntmps10
  go_wp2
  clear hW1
  go_region
  obtain ⟨W2, hW2⟩ : ∃ W2, W1.drew = W2 := ⟨_, rfl⟩
  have HW2 := Lib.hid hW2
  have k2 : ∀ k : Nat, W2.drew.heap[k]? = W1.heap[k]? := fun k => by rw [← hW2]; rfl
  have c0' : W2.cell? ⟨g, 0, none⟩ = some (.map (some B)) := by rw [← hW2]; exact c0
  have c1' : W2.cell? ⟨g, 1, none⟩ = some (.slice Av L.length cv) := by rw [← hW2]; exact c1
  have e0' : W2.cell? ⟨w.heap.size, 0, none⟩ = some (.int .i64 p) := by rw [← hW2]; exact e0
  have e1' : W2.cell? ⟨w.heap.size, 1, none⟩ = some (.string s) := by rw [← hW2]; exact e1
  have hs2 : W2.heap.size = w.heap.size + 1 := by rw [← hW2]; exact hs1
  have hs2d : W2.drew.heap.size = W2.heap.size := rfl
  have hb2 : Below w.heap.size w W2.drew := by rw [← hW2]; exact ⟨hbl.os, hbl.tape, hbl.output, hbl.size, hbl.block⟩
  rw [hW2]
  clear hW2 c0 c1 f1 e0 e1 hl1
  have HR2 := Lib.hid (Kd.R_step (w1 := W2.drew) H7.out (fun k _ hk => (k2 k).trans (hbl.block k hk)))
  have Hp := Lib.hid (show ∀ (W : World) (b : Nat) (o : Nat → Prop), dE.M W b o (en (p, l)) [.int .i64 p, .string s] from fun W b o => ⟨[_], [_], rfl, rfl, by rw [← HS.out]; rfl⟩)
  have Hf2 := Lib.hid (show ∀ k, W2.drew.heap.size ≤ k → ok k from fun k hk => HFR.out k (by omega))
  have Hb2 := Lib.hid (hb2.mono hb)
  have HB := Lib.hid (show ∃ es c, w.heap[B]? = some (.map es c) from by obtain ⟨es, c, hb, _⟩ := H5.out; exact ⟨es, c, hb⟩)
  have HbW := Lib.hid hb2
  have HsW := Lib.hid (show w.heap.size < W2.drew.heap.size by rw [hs2d, hs2]; omega)
  have HeW := Lib.hid ((k2 _).trans hE1)
  have Hg2 := Lib.hid (show W2.drew.heap[g]? = some (.cells #[.map (some B), .slice Av L.length cv] 56 (0, 0)) from (k2 g).trans ((hbl.block g hg0).trans H1.out))
  clear hb2 k2
  go_upto_region 6 with fail
  go_cut [] from 11 (fun wx => MidM w wx base ok g B L (p, l) s)
  case first =>
   go_region_law (refine Kd.R_append_step dE (w0 := w) base (by rfl) (.tmp 36) (.tmp 38) 54 58 (.agg #[.int .i64 0, .string ByteArray.empty]) 24 rfl Try.underlying54 infoE rfl (by decide) (by decide) (.slice Av L.length cv) (L.map en) (en (p, l)) [.int .i64 p, .string s] ok (fun _ => False) (by simp [Act.eval]) (by simp [Act.eval]) (Hp.out _ _ _) (fun _ hk => hk.elim) Hf2.out HR2.out Hb2.out (by omega) (by rw [List.length_map]; omega) ?_; intro v5 w5 ho5 hb5 hg5 hat5; obtain ⟨A5, cp5, hv5, _, _⟩ := Kd.R_reads ho5; rw [List.length_append, List.length_map, List.length_singleton] at hv5; subst hv5; have hg5g := (hg5.block g (by omega) (Kd.R_ne HR2.out Hg2.out (by decide))).trans Hg2.out; have c5 := cell_cells2 hg5g 1 (Nat.lt_succ_self 1); have f5 := frozen_cells2 hg5g 1; have c50 := cell_cells2 hg5g 0 (Nat.zero_lt_succ 1))
   all_goals
    go_wp2_with fail
    go_meet
    case rel => exact midM_mk h2 h4 HB.out H7.out HbW.out HsW.out Hg2.out HeW.out ho5 hb5 hg5 hg0
  case rest =>
    obtain ⟨A5, cp5, m1, m2, m3, m4, m5, m6⟩ := hcut
    clear c0' c1' e0' e1' hs2 hs2d hs1 hE1 hbl hg0
    obtain ⟨W5, hW5⟩ : ∃ W5, wc = W5 := ⟨_, rfl⟩
    subst hW5
    have d0 := cell_cells2 m1 0 (Nat.zero_lt_succ 1)
    have d1 := cell_cells2 m1 1 (Nat.lt_succ_self 1)
    have d2 := cell_cells2 m6 0 (Nat.zero_lt_succ 1)
    have d3 := cell_cells2 m6 1 (Nat.lt_succ_self 1)
    obtain ⟨w6, hr6, hown6, ht6⟩ := (show wc.drew.ownsMap Try.prog 58 (plainElem Try.prog 34) B L.length D from map_move H5.out m5).store law Try.underlying53 (by unfold maxLen; omega) (key_kl HX.out) (plainElem_int Try.underlying34 (a := (L.length : Int) + 1) (wf_u64 (by omega)))
    unfold keyV at hr6
    rw [HS.out] at hr6
    have M1 := Lib.hid m1
    have M6 := Lib.hid m6
    have M5 := Lib.hid m5
    clear m1 m6 m5
    go_upto_region 8 with fail
    go_region
    go_wp2
    go_ret2
    refine ⟨rfl, ?_⟩
    have hg6 : wc.grownBy w6 (some B) := ⟨ht6.grown.os, ht6.grown.tape, ht6.grown.output, ht6.grown.size, ht6.grown.block⟩
    have hgB : some g ≠ some B := fun e => by
      obtain ⟨es, c, hb⟩ := HB.out
      injection e with e
      have := M5.out.trans hb
      rw [← e, M1.out] at this
      cases this
    have hg6g := (hg6.block g (Array.getElem?_eq_some_iff.1 M1.out).1 hgB).trans M1.out
    have hR6 := R_map m2 (by obtain ⟨es, c, hb⟩ := HB.out; exact ⟨es, c, M5.out.trans hb⟩) hg6
    refine ⟨⟨B, _, _, hg6g, ⟨h2, h3, h4, h4'⟩, ?_, agr_snoc H6.out H8.out HX.out HN.out, by rw [List.map_append]; exact hR6, ?_⟩, m3.grown hg6 (Nat.le_trans hb m4.1) (fun k e => by cases e; exact h4'), m4.trans (Off.grown hg6 (fun k e => by cases e; exact h3))⟩
    · rw [List.length_append]; exact hown6
    · intro y hy
      rcases List.mem_append.1 hy with hy | hy
      · exact H8.out y hy
      · rw [List.mem_singleton.1 hy]; exact HX.out

set_option maxRecDepth 100000 in
set_option maxHeartbeats 2000000 in
theorem mint_old (w : World) (base : Nat) (ok : Nat → Prop) (g : Nat) (L : List Ent) (p : Int) (A : Option Addr) (c : Nat) (l : List Int) (h : NotAt w base ok g L) (hb : base ≤ w.heap.size)
    (hp1 : 1 ≤ p) (hp2 : p ≤ 2147483647) (hr : Kd.C (Kd.int .u8) w A l.length l) (hx : fine (p, l)) (hmem : (p, l) ∈ L) :
    Calls Try.prog 10 #[.pointer (some ⟨g, 0, none⟩), .int .i64 p, .slice A l.length c] w fun e w' => e = .returned (.tuple #[.int .u64 (L.idxOf (p, l) + 1), .int .i64 0]) ∧ Below w.heap.size w w' := by
  obtain ⟨B, v, D, h1, ⟨h2, h3, h4, h4'⟩, h5, h6, h7, h8⟩ := h
  have qs := Kd.C_string (src := 22) (dst := 9) (e := 5) (c := c) Try.underlying22 Try.underlying5 Try.underlying9 hr
  obtain ⟨s, hs⟩ : ∃ s, strOfNums l = s := ⟨_, rfl⟩
  rw [hs] at qs
  have hlook : ∀ (W : World), W.heap[B]? = w.heap[B]? → (Instr.lookup 53 (.map (some B)) (.agg #[.int .i64 p, .string s]) true).run Try.prog W = .ok (.tuple #[.int .u64 (L.idxOf (p, l) + 1), .bool true]) W := fun W hW => by
    obtain ⟨v, ps, hrun, hv⟩ := (map_move h5 hW).look_ok law Try.underlying53 (zeroU W) (zd := z64) (plainElem_int Try.underlying34 (by decide)) (key_kl hx)
    obtain ⟨c, rfl, hc, _⟩ := plainElem_int_inv Try.underlying34 hv
    have h6' := (h6.2 _ hx).1 hmem
    rw [h6'.1] at hrun
    rw [h6'.2] at hc
    injection hc with hc
    injection hc with hc
    injection hc with _ hc
    subst hc
    rw [← hs]
    exact hrun
  have hg0 : g < w.heap.size := (Array.getElem?_eq_some_iff.1 h1).1
  obtain ⟨W1, hW1⟩ : ∃ W1, w.alloc (.cells #[.int .i64 p, .string s] 58) = W1 := ⟨_, rfl⟩
  have hbl : Below w.heap.size w W1 := by rw [← hW1]; exact (Below.refl _ _).alloc (Nat.le_refl _) _
  have hE1 : W1.heap[w.heap.size]? = some (.cells #[.int .i64 p, .string s] 58 (0, 0)) := by rw [← hW1]; exact Boxed2 _ _ _
  have hl1 := hlook W1.drew (hbl.block B h5.lt)
  have c0 := cell_cells2 ((hbl.block g hg0).trans h1) 0 (Nat.zero_lt_succ 1)
  have e0 := cell_cells2 hE1 0 (Nat.zero_lt_succ 1)
  have e1 := cell_cells2 hE1 1 (Nat.lt_succ_self 1)
  clear h5 h6 h7 h8 h1 hlook hr hx hmem hs hE1
  have g1 : decide (p < 1) = false := decide_eq_false (by omega)
  have g2 : decide (2147483647 < p) = false := decide_eq_false (by omega)
  have HB := Lib.hid hbl
  clear hbl
  go_enter Try.func10, Try.ntmps10
  go_wp2
  clear hW1
  go_region
  go_wp2
  go_ret2
  exact ⟨rfl, HB.out.os, HB.out.tape, HB.out.output, HB.out.size, HB.out.block⟩
theorem mint_arg (w : World) (g : Nat) (p : Int) (A : Option Addr) (n c : Nat) (hp : p < 1 ∨ 2147483647 < p) :
    Calls Try.prog 10 #[.pointer (some ⟨g, 0, none⟩), .int .i64 p, .slice A n c] w fun e w' => e = .returned (.tuple #[.int .u64 0, .int .i64 1]) ∧ w = w' := by
  by_cases h1 : p < 1
  · have g1 : decide (p < 1) = true := decide_eq_true h1
    go_enter Try.func10, Try.ntmps10
    go_wp2
    go_ret2
    exact ⟨rfl, rfl⟩
  · have g1 : decide (p < 1) = false := decide_eq_false h1
    have g2 : decide (2147483647 < p) = true := decide_eq_true (by omega)
    go_enter Try.func10, Try.ntmps10
    go_wp2
    go_ret2
    exact ⟨rfl, rfl⟩
theorem Off.below {ok : Nat → Prop} {w w1 : World} (h : Below w.heap.size w w1) : Off ok w w1 := ⟨h.size, fun b hb _ => h.block b hb⟩
/-- Mint, whatever the peer, the text and the entries. -/
theorem mint_calls (w : World) (base : Nat) (ok : Nat → Prop) (g : Nat) (L : List Ent) (p : Int) (A : Option Addr) (c : Nat) (l : List Int) (h : NotAt w base ok g L) (hfr : ∀ k, w.heap.size ≤ k → ok k) (hb : base ≤ w.heap.size)
    (hr : Kd.C (Kd.int .u8) w A l.length l) (hc : l.length ≤ c) (hx : fine (p, l)) (hL : L.length ≤ 1000000) :
    Calls Try.prog 10 #[.pointer (some ⟨g, 0, none⟩), .int .i64 p, .slice A l.length c] w fun e w' => e = .returned (.tuple #[.int .u64 (mintF L p l).1, .int .i64 (mintF L p l).2.1]) ∧ NotAt w' base ok g (mintF L p l).2.2 ∧ Below base w w' ∧ Off ok w w' := by
  unfold mintF
  by_cases hp : p < 1 ∨ 2147483647 < p
  · rw [if_pos hp]
    exact (mint_arg w g p A l.length c hp).mono fun e w' ⟨he, hw⟩ => ⟨he, by rw [← hw]; exact h, by rw [← hw]; exact Below.refl _ _, by rw [← hw]; exact Off.refl _ _⟩
  · rw [if_neg hp]
    by_cases hm : (p, l) ∈ L
    · rw [if_pos hm]
      exact (mint_old w base ok g L p A c l h hb (by omega) (by omega) hr hx hm).mono fun e w' ⟨he, hw⟩ => ⟨he, h.step (fun k _ hk => hw.block k hk), hw.mono hb, Off.below hw⟩
    · rw [if_neg hm]
      exact mint_new w base ok g L p A c l h hfr hb (by omega) (by omega) hr hc hx hm hL
end Go.Proofs.Ytmidmdbhbhjcdaa.Nt
