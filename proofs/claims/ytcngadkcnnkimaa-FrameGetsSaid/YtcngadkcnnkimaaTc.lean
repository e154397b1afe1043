/-
  slices.Collect of frame.All is the rows; frame.Split: the rows, or the code. Condition: the bytes are bytes, at most a million.
-/
import Derived.Test.YtcngadkcnnkimaaTw
import Derived.Maps.OwnIn
namespace Go.Proofs.Ytcngadkcnnkimaa.Fr
open Go.RowKit Go.Shelf Go.Proofs.Ytcngadkcnnkimaa.H Go.Proofs.Ytcngadkcnnkimaa.Uv Go.Proofs.YtcngadkcnnkimaaW.PrintWords Go.Proofs.YtcngadkcnnkimaaW.PrintLast Go.Proofs.YtcngadkcnnkimaaW.PrintMore
set_option linter.unusedVariables false
set_option linter.unusedSimpArgs false
attribute [local go_sem] Oper.semAt_some

def dRows : Kd (List (List Int)) := Kd.slice 22 (Kd.slice 5 (Kd.int .u8))
def dRow : Kd (List Int) := Kd.slice 5 (Kd.int .u8)
theorem R_noncells {α : Type} {d : Kd α} {e : Nat} {w w1 : World} {base : Nat} {ok : Nat → Prop} {v : Value} {xs : List α} {row : Option Nat} (h : d.R e w base ok v xs) (hg : w.grownBy w1 row) (hr : ∀ r, row = some r → ∃ o : Obj, w.heap[r]? = some o ∧ o.isCells = false) : d.R e w1 base ok v xs :=
  Kd.R_mono (Kd.R_step (Kd.R_bound h) (fun k hk hlt => hg.block k hlt (fun e => by
    obtain ⟨o, ho, hc⟩ := hr k e.symm
    obtain ⟨_, _, _, q, _, cells, hq⟩ := hk
    rw [hq] at ho
    cases ho
    cases hc))) (fun _ hk => hk.1)
theorem row_E (q : Nat) (hq : q ∈ (22 : Nat) :: dRow.E) : q ≠ 30 := by
  have h : dRow.E = [5] := rfl
  rw [h] at hq
  simp only [List.mem_cons, List.not_mem_nil, or_false] at hq
  rcases hq with rfl | rfl <;> decide
/-- One round's append: the row that was told, behind the rows. -/
theorem grow_rows {V w1 : World} {bx : Nat} {v v1 xv : Value} {ls : List (List Int)} {row : List Int} {inner : List Value} (hB : Boxed V bx 30 v) (hR : dRow.R 22 V bx (fun k => k ≠ bx) v ls) (hT : (Kd.int .u8).R 5 V bx (fun _ => True) xv row) (hbx : bx < V.heap.size)
    (hin : (V.alloc (.cells #[xv] 22)).ownsRow bx 22 1 v ls.length inner) (hrp : Reps (dRow.M (V.alloc (.cells #[xv] 22)) bx (fun k => k ≠ bx ∧ some k ≠ v.ownBlock)) 1 ls inner)
    (hown : w1.ownsRow bx 22 1 v1 (ls.length + 1) (inner ++ [xv])) (hg : (V.alloc (.cells #[xv] 22)).grownBy w1 v.ownBlock) (hat : v1.ownBlock = v.ownBlock ∨ v1.ownBlock = some (V.alloc (.cells #[xv] 22)).heap.size) :
    dRow.R 22 (w1.setCell ⟨bx, 0, none⟩ v1) bx (fun k => k ≠ bx) v1 (ls ++ [row]) ∧ Boxed (w1.setCell ⟨bx, 0, none⟩ v1) bx 30 v1 := by
  have hbV : Below V.heap.size V (V.alloc (.cells #[xv] 22)) := (Below.refl _ _).alloc (Nat.le_refl _) _
  have hne : some bx ≠ v.ownBlock := hB.not_row (by decide) (Kd.R_own hR).choose_spec
  have hB1 : Boxed w1 bx 30 v := (hB.alloc _).kept hg hne
  have hp : dRow.M (V.alloc (.cells #[xv] 22)) bx (fun k => ∃ cells, V.heap[k]? = some (.cells cells 5 (0, 0))) row [xv] := by
    refine ⟨xv, rfl, Kd.R_below (Kd.R_mono (Kd.R_bound hT) (fun k hk => ?_)) hbV⟩
    obtain ⟨_, _, _, q, hq, cells, hc⟩ := hk
    have hE : (Kd.int .u8).E = [] := rfl
    rw [hE, List.mem_singleton] at hq
    exact ⟨cells, hq ▸ hc⟩
  have hR1 := Kd.R_appended (d := dRow) (e := 22) (base := bx) (ok := fun k => k ≠ bx) (W := V.alloc (.cells #[xv] 22)) (w1 := w1) (v := v) (v1 := v1) (xs := ls) (p := row) (inner := inner) (cs := [xv]) hR.1 hrp hp (fun k hk => by
    obtain ⟨cells, hc⟩ := hk
    refine ⟨fun e => ?_, fun e => ?_⟩
    · have h2 : V.heap[bx]? = _ := hB
      rw [e, h2] at hc
      injection hc with hc
      injection hc with _ hc
      exact absurd hc (by decide)
    · obtain ⟨cells2, h2⟩ := Kd.R_typed hR k e.symm
      rw [h2] at hc
      injection hc with hc
      injection hc with _ hc
      exact absurd hc (by decide)) (fun k hk => by have := hbV.size; omega) hown hg (hat.imp id (fun h => ⟨_, h, Nat.le_refl _⟩))
  exact ⟨Kd.R_set hR1 hB1 row_E 0 _, hB1.set _⟩

set_option maxRecDepth 100000 in
set_option maxHeartbeats 2000000 in
theorem appseq_calls (B : Nat) (A : Option Addr) (c : Nat) (l : List Int) (rows : List (List Int)) (w : World) (c1 : w.cell? ⟨B, 0, none⟩ = some (.slice A l.length c)) (hc : l.length ≤ c) (hr : Kd.C (Kd.int .u8) w A l.length l) (hb : Bytes l) (hl : l.length ≤ 1000000) (hrows : (rowsF l).1 = rows) :
    Calls Try.prog 30 #[.slice none 0 0, .func (.func 28) #[] #[.pointer (some ⟨B, 0, none⟩)]] w fun e w' => ∃ v, e = .returned v ∧ dRow.R 22 w' w.heap.size (fun _ => True) v rows ∧ Below w.heap.size w w' := by
  have hlen : rows.length ≤ 1000000 := by rw [← hrows]; exact rowsF_len 1000000 l hb hl
  have hBl : B < w.heap.size := World.block_lt_of_cell? _ _ c1
  obtain ⟨W0, hW0⟩ : ∃ W0, w.alloc (.cells #[.slice none 0 0] 30) = W0 := ⟨_, rfl⟩
  have hbw : Below w.heap.size w W0 := by rw [← hW0]; exact (Below.refl _ _).alloc (Nat.le_refl _) _
  have hs0 : W0.heap.size = w.heap.size + 1 := by rw [← hW0]; simp
  have B0 : Boxed W0 w.heap.size 30 (.slice none 0 0) := by rw [← hW0]; exact Boxed.new w _ _
  have c2 : W0.cell? ⟨B, 0, none⟩ = some (.slice A l.length c) := (hbw.cell (p := ⟨B, 0, none⟩) hBl).trans c1
  have seq := all1_told 7 (by omega) (fun b => b < w.heap.size) B A c l rows W0 w.heap.size hbw.size hBl (fun b hb => by omega) c2 hc (fun V hV => Kd.Heap.C (Kd.heap_int _) (fun k hk => (hV.2 k hk).trans (hbw.block k hk)) hr) hb hl hrows
  have HBW := Lib.hid hbw
  have HB0 := Lib.hid B0
  have Hlen := Lib.hid hlen
  clear hr c1 c2 hrows hb hbw B0 hlen
  refine (callsIn_wide (n := 8)).1 ?_
  refine callsIn_of_wp_marks Try.func30 rfl trivial (wpIn_wide.2 ?_) rfl
  simp only [Try.ntmps30, List.size_toArray, List.length_cons, List.length_nil, Nat.reduceAdd, Nat.reduceSub, Array.replicate_succ, Array.replicate_zero, List.push_toArray, List.append_toArray, List.nil_append, List.cons_append]
  go_wp2
  clear hW0
  refine (wpIn_wide (n := 8)).1 ?_
  refine range_told rfl (by omega) (gf := 28) (lb := #[.pointer (some ⟨B, 0, none⟩)]) rfl trivial (enters_of Try.func28 (by kernel_rfl) rfl)
    seq KeepS.trans (fun W l o o' hl h _ _ => KeepS.put W l o o' (fun hb => by omega) h) (Below.refl _ _) (fun _ => rfl) (fun pre x W l o o' h1 h2 h3 => TellsR.put pre x W l o o' h1 h2 h3)
    (fun pre V => KeepS (fun b => b < w.heap.size) W0 V ∧ (∃ v, Boxed V w.heap.size 30 v ∧ dRow.R 22 V w.heap.size (fun k => k ≠ w.heap.size) v (pre.map Prod.snd)) ∧ Below w.heap.size w V ∧ pre.map Prod.snd <+: rows)
    ?hI ?h0 ?a1 ?assign ?body ?done
  case assign =>
    intro l x W K hK
    gi_wp2
    exact hK
  case hI =>
    rintro s X Y row ⟨h2, ⟨v, h3, h4⟩, h5, h6⟩ hg hr
    have hc' : ∀ r, row = some r → ∃ o : Obj, X.heap[r]? = some o ∧ o.isCells = false := fun r e => (hr r e).2
    refine ⟨h2.grown (fun b hb => by omega) hg (fun r e hb => by have := (hr r e).1; omega), ⟨v, h3.kept hg (fun e => ?_), R_noncells h4 hg hc'⟩, h5.grown hg h5.size (fun k e => by have := (hr k e).1; omega), h6⟩
    obtain ⟨o, ho, hcc⟩ := hc' _ e.symm
    have h3' : X.heap[w.heap.size]? = _ := h3
    rw [h3'] at ho
    cases ho
    cases hcc
  case h0 => exact ⟨KeepS.refl _ _, ⟨_, HB0.out, Kd.R_nil _ _ _ _ _⟩, HBW.out, by simp⟩
  case body =>
    rintro lp pre ⟨xv, row⟩ V ⟨hk, ⟨v, b9, hR⟩, hbl, hpre⟩ hT
    have hpl := hpre.length_le
    have hlen := Hlen.out
    obtain ⟨ls, hls⟩ : ∃ ls, pre.map Prod.snd = ls := ⟨_, rfl⟩
    rw [hls] at hR hpre hpl
    have HLS := Lib.hid hls
    have HT := Lib.hid hT
    have HR := Lib.hid hR
    have HBX := Lib.hid b9
    have HK := Lib.hid hk
    have HBL := Lib.hid hbl
    have HP := Lib.hid hpre
    obtain ⟨Ax, cx, hxv, _, _⟩ := Kd.R_reads hT.1
    dsimp only at hxv
    subst hxv
    have hVs : w.heap.size < V.heap.size := b9.lt
    have hRa : dRow.R 22 (V.alloc (.cells #[.slice Ax row.length cx] 22)) w.heap.size (fun k => k ≠ w.heap.size) v ls := Kd.R_below hR ((Below.refl _ _).alloc (Nat.le_refl _) _)
    obtain ⟨_, inner, hin, hrp⟩ := hRa
    have HIN := Lib.hid hin
    have HRP := Lib.hid hrp
    obtain ⟨i0, hi0, hz0, hsz0, hby0⟩ := info_parts infoS
    have Hi0 := Lib.hid hi0
    have Hz0 := Lib.hid hz0
    have Hsz0 := Lib.hid hsz0
    have Hby0 := Lib.hid hby0
    have c9 := b9.cell
    have f9 := b9.frozen
    have hne := Lib.hid (show some w.heap.size ≠ v.ownBlock from b9.not_row (by decide) (Kd.R_own hR).choose_spec)
    clear hT hR b9 hk hbl hpre hls hin hrp hi0 hz0 hsz0 hby0 seq
    gi_wp2_with (gi_at_builtin; go_loud (refine wpListIn_append_own_at _ rfl (.tmp 8) (.tmp 10) 30 rfl w.heap.size 22 i0 (.slice none 0 0) 1 24 Try.underlying30 Hi0.out Hz0.out Hsz0.out Hby0.out rfl (by decide) v ls.length inner rfl HIN.out ⟨V.heap.size, 0, none⟩ 1 1 [.slice Ax row.length cx] rfl rfl (fun j u hj => by cases j with | zero => (simp at hj; subst hj; rw [Addr.add_lit]; exact (Boxed.new V 22 _).cell) | succ j => simp at hj) (fun u hu => by rw [List.mem_singleton.1 hu]; rfl) (by unfold maxLen; omega) (by omega) (by simp; omega) ?_; intro v1 w1 hown1 hg1 hnil1 hat1; have hG0 := grow_rows HBX.out HR.out HT.out.1 hVs HIN.out HRP.out hown1 hg1 hat1; obtain ⟨A9, c9x, hv9, _, _⟩ := Kd.R_reads hG0.1; rw [List.length_append, List.length_singleton] at hv9; subst hv9; have hG := Lib.hid hG0; clear hG0; have hB1 := (HBX.out.alloc _).kept hg1 hne.out; have c9_ := hB1.cell; have f9_ := hB1.frozen; have HG1 := Lib.hid hg1; clear hown1 hnil1 hat1 hg1 hB1))
    have hV1 := HG1.out.size
    simp only [World.size_alloc] at hV1
    have hko : KeepsOthers V (w1.setCell ⟨w.heap.size, 0, none⟩ (.slice A9 (ls.length + 1) c9x)) := by
      refine ⟨by simp [World.setCell]; omega, fun k o ho hcc => ?_⟩
      have hk1 : k < V.heap.size := (Array.getElem?_eq_some_iff.1 ho).1
      have hkb : k ≠ w.heap.size := fun e => by
        have h2 : V.heap[w.heap.size]? = _ := HBX.out
        rw [e, h2] at ho
        cases ho
        cases hcc
      have hkv : some k ≠ v.ownBlock := fun e => by
        obtain ⟨cells, h2⟩ := Kd.R_typed HR.out k e.symm
        rw [h2] at ho
        cases ho
        cases hcc
      rw [Below.heap_setCell _ _ _ _ hkb, HG1.out.block k (by simp; omega) hkv, Below.heap_alloc _ _ _ hk1]
      exact ho
    have hown : ∀ k, v.ownBlock = some k → w.heap.size ≤ k := fun k hk => by
      obtain ⟨inn, ho⟩ := Kd.R_own HR.out
      exact own_base ho k hk
    have hbl1 : Below w.heap.size V (w1.setCell ⟨w.heap.size, 0, none⟩ (.slice A9 (ls.length + 1) c9x)) :=
      ((((Below.refl w.heap.size V).alloc (by omega) _).grown HG1.out (by simp; omega) hown).setCell (p := ⟨w.heap.size, 0, none⟩) (Nat.le_refl _) _)
    have hkS : KeepS (fun b => b < w.heap.size) V (w1.setCell ⟨w.heap.size, 0, none⟩ (.slice A9 (ls.length + 1) c9x)) := KeepS.below hbl1 (fun b hb => hb)
    refine ⟨hko, hkS, HK.out.trans hkS, ⟨_, hG.out.2, ?_⟩, HBL.out.trans hbl1, ?_⟩
    · rw [HLS.out]; exact hG.out.1
    · have hp := prefix_get (rows := rows) (pre := pre) (x := ((.slice Ax row.length cx, row) : VR)) (by rw [HLS.out]; exact HP.out) HT.out.2
      rw [List.map_append, List.map_singleton] at hp
      exact hp
  case done =>
    rintro D xs V hD hxs ⟨hk, ⟨v, b9, hR⟩, hbl, hpre⟩ hK2
    rw [hxs] at hR
    have c9 := b9.cell
    have HR := Lib.hid hR
    have HBL := Lib.hid hbl
    clear hk hxs seq hR hbl hpre
    go_wp2
    refine ⟨by simp, .inl ⟨_, _, rfl, run_takeDeferred hK2, ?_⟩⟩
    refine ⟨v, ?_, v, rfl, ?_, ?_⟩
    · simp [results, Try.f30, go_sem]
    · exact Kd.R_mono (R_noncells HR.out (grownBy_putObj' V D _) (fun r e => by cases e; exact ⟨_, hK2, rfl⟩)) (fun _ _ => trivial)
    · exact HBL.out.trans (belowK_b (w := w) (Nat.le_refl _) _ D _ _ (by omega) hK2 rfl rfl)

theorem collect_calls (B : Nat) (A : Option Addr) (c : Nat) (l : List Int) (rows : List (List Int)) (w : World) (c1 : w.cell? ⟨B, 0, none⟩ = some (.slice A l.length c)) (hc : l.length ≤ c) (hr : Kd.C (Kd.int .u8) w A l.length l) (hb : Bytes l) (hl : l.length ≤ 1000000) (hrows : (rowsF l).1 = rows) :
    Calls Try.prog 25 #[.func (.func 28) #[] #[.pointer (some ⟨B, 0, none⟩)]] w fun e w' => ∃ v, e = .returned v ∧ dRow.R 22 w' w.heap.size (fun _ => True) v rows ∧ Below w.heap.size w w' := by
  have K := Lib.hid (appseq_calls B A c l rows w c1 hc hr hb hl hrows)
  clear c1 hr hb hrows
  go_enter Try.func25, Try.ntmps25
  go_wp2_with (go_at_call 30; refine K.out.mono ?_; rintro e w1 ⟨v, rfl, hR, hb⟩)
  go_ret
  exact ⟨v, rfl, hR, hb⟩
theorem yes_calls (v : Value) (w : World) : Calls Try.prog 27 #[v] w fun e w' => e = .returned (.bool true) ∧ w = w' := by
  go_enter Try.func27, Try.ntmps27
  go_wp2
  go_ret
  exact ⟨rfl, rfl⟩
set_option maxRecDepth 100000 in
set_option maxHeartbeats 2000000 in
theorem walk_code (A : Option Addr) (c : Nat) (l : List Int) (w : World) (hr : Kd.C (Kd.int .u8) w A l.length l) (hc : l.length ≤ c) (hb : Bytes l) (hl : l.length ≤ 1000000) :
    Calls Try.prog 26 #[.slice A l.length c, .func (.func 27) #[] #[]] w fun e w' => e = .returned (.int .i64 (rowsF l).2) ∧ Below w.heap.size w w' := by
  have HR := Lib.hid hr
  have HB := Lib.hid hb
  obtain ⟨code, hcode⟩ : ∃ z, (rowsF l).2 = z := ⟨_, rfl⟩
  rw [hcode]
  have HE := Lib.hid hcode
  clear hr hb hcode
  go_enter Try.func26, Try.ntmps26
  go_wp2
  go_loopg [0] (1000000 : Nat) (fun kq v0 wr => ∃ (A' : Option Addr) (c' : Nat) (x : List Int), v0 = .slice A' x.length c' ∧ x.length ≤ c' ∧ x.length ≤ kq ∧ x.length ≤ 1000000 ∧ Hid (∀ V, Below w.heap.size w V → Kd.C (Kd.int .u8) V A' x.length x) ∧ Hid (Bytes x) ∧ Hid ((rowsF x).2 = code) ∧ Hid (Below w.heap.size w wr))
  case atStart => exact ⟨A, c, l, rfl, hc, hl, hl, Lib.hid (fun V hV => Kd.C_below HR.out hV), HB, HE, Lib.hid (Below.refl _ _)⟩
  case round =>
    obtain ⟨A', c', x, rfl, hc', hxk, hxm, HC, HBx, HX, HW⟩ := hrel
    by_cases h0 : 0 < x.length
    · have hb0 : decide (0 < (x.length : Int)) = true := decide_eq_true (by omega)
      have hb0' : decide (0 < x.length) = true := decide_eq_true h0
      have hne : x ≠ [] := List.length_pos_iff.1 h0
      obtain ⟨k1, hg⟩ := (fget_yes x HBx.out (by omega)).rounds
      obtain ⟨⟨row, m1, e1⟩, hgf⟩ : ∃ z, getF x = z := ⟨_, rfl⟩
      rw [hgf] at hg
      have Hg := Lib.hid hg
      have Hgf := Lib.hid hgf
      clear hg hgf
      by_cases h1 : e1 = 0
      · subst h1
        have hin := getF_in HBx.out (by rw [Hgf.out])
        have hrw := rowsF_ok HBx.out hne (by rw [Hgf.out])
        rw [Hgf.out] at hin hrw
        dsimp only at hin hrw
        obtain ⟨h2, h3, h4, h5⟩ := hin
        obtain ⟨i0, hi0, _, hsz0, _⟩ := info_parts info8
        obtain ⟨A9, hcut9, hA9, hC9⟩ := print_drop_of (P := Try.prog) (Value.int .u8) 0 22 5 .i64 Try.underlying22 hi0 hsz0 A' c' x m1 (by omega) h3 hc'
        have HC9 := Lib.hid (show ∀ V, Below w.heap.size w V → Kd.C (Kd.int .u8) V A9 (x.drop m1.toNat).length (x.drop m1.toNat) from fun V hV => Kd.C_of_reads (h1 := fun _ => rfl) (hA9 _ (Kd.reads_of_C (HC.out V hV))))
        have hle9 : (x.drop m1.toNat).length ≤ c' - m1.toNat := hC9
        have hlt9 : (x.drop m1.toNat).length < x.length := by rw [List.length_drop]; omega
        have Hle9 := Lib.hid hle9
        have Hlt9 := Lib.hid hlt9
        have Hrw := Lib.hid hrw
        have H23 := Lib.hid (And.intro h2 h3)
        clear hA9 hC9 hi0 hsz0 hrw hle9 hlt9 h2 h3 h4 h5
        go_wp2_with (first
          | (go_at_call 10; refine (frame_Get.calls k1 A' c' x row m1 0 _ (HC.out wr HW.out) hc' Hg.out).mono ?_; rintro e w1 ⟨v0, rfl, hR, hb1⟩; have HB1 := Lib.hid hb1; clear hR hb1)
          | (go_at_call 27; refine (yes_calls _ _).mono ?_; rintro e w2 ⟨rfl, rfl⟩))
        go_roundg (gk - 1)
        case measure => have := Hlt9.out; omega
        case rel =>
          have h9 := Hlt9.out
          exact ⟨A9, c' - m1.toNat, x.drop m1.toNat, by simp, Hle9.out, by omega, by omega, HC9, Lib.hid (HBx.out.drop _), Lib.hid (by rw [← HX.out, Hrw.out]), Lib.hid (HW.out.trans (HB1.out.mono HW.out.size))⟩
      · have hb1 : (e1 != 0) = true := by simpa using h1
        have hbad := rowsF_bad hne (show ¬ (getF x).2.2 = 0 by rw [Hgf.out]; exact h1)
        have Hx := Lib.hid (show e1 = code by rw [← HX.out, hbad, Hgf.out])
        clear h1 hbad
        go_wp2_with (go_at_call 10; refine (frame_Get.calls k1 A' c' x row m1 e1 _ (HC.out wr HW.out) hc' Hg.out).mono ?_; rintro e w1 ⟨v0, rfl, hR, hb1⟩; have HB1 := Lib.hid hb1; clear hR hb1)
        go_ret
        exact ⟨by rw [← Hx.out]; rfl, HW.out.trans (HB1.out.mono HW.out.size)⟩
    · have hb0 : decide (0 < (x.length : Int)) = false := decide_eq_false (by omega)
      have hb0' : decide (0 < x.length) = false := decide_eq_false h0
      have hnil : x = [] := List.length_eq_zero_iff.1 (by omega)
      have Hx := Lib.hid (show 0 = code by rw [← HX.out, hnil, rowsF_nil])
      clear hnil
      go_wp2
      go_ret
      exact ⟨by rw [← Hx.out]; rfl, HW.out⟩
set_option maxRecDepth 100000 in
theorem split_calls (A : Option Addr) (c : Nat) (l : List Int) (w : World) (hr : Kd.C (Kd.int .u8) w A l.length l) (hc : l.length ≤ c) (hb : Bytes l) (hl : l.length ≤ 1000000) :
    Calls Try.prog 16 #[.slice A l.length c] w fun e w' => ∃ v, e = .returned (.tuple #[v, .int .i64 (rowsF l).2]) ∧ dRow.R 22 w' w.heap.size (fun _ => True) v (if (rowsF l).2 = 0 then (rowsF l).1 else []) ∧ Below w.heap.size w w' := by
  have hb1 : Below w.heap.size w (w.alloc (.cells #[.slice A l.length c] 22)) := (Below.refl _ _).alloc (Nat.le_refl _) _
  have KC := Lib.hid (collect_calls w.heap.size A c l (rowsF l).1 (w.alloc (.cells #[.slice A l.length c] 22)) (Boxed.new w 22 (.slice A l.length c)).cell hc (Kd.C_below hr hb1) hb hl rfl)
  have KW := Lib.hid (fun W (hW : Below w.heap.size w W) => walk_code A c l W (Kd.C_below hr hW) hc hb hl)
  have HB1 := Lib.hid hb1
  obtain ⟨rows, hrows⟩ : ∃ z, (rowsF l).1 = z := ⟨_, rfl⟩
  obtain ⟨code, hcode⟩ : ∃ z, (rowsF l).2 = z := ⟨_, rfl⟩
  rw [hrows, hcode]
  rw [hrows] at KC
  rw [hcode] at KW
  clear hb1 hr hb hrows hcode
  go_enter Try.func16, Try.ntmps16
  by_cases h0 : code = 0
  · subst h0
    go_wp2_with (first
      | (go_at_call 19; refine (frame_All_maker A l.length c _).mono ?_; rintro e w1 ⟨rfl, rfl⟩)
      | (go_at_call 25; refine KC.out.mono ?_; rintro e w2 ⟨v, rfl, hR, hb2⟩; have HB2 := Lib.hid (HB1.out.trans (hb2.mono HB1.out.size)); have HR := Lib.hid hR; clear hR hb2)
      | (go_at_call 26; refine (KW.out _ HB2.out).mono ?_; rintro e w3 ⟨rfl, hb3⟩; have HB3 := Lib.hid hb3; clear hb3))
    go_ret2
    refine ⟨v, rfl, ?_, HB2.out.trans (HB3.out.mono HB2.out.size)⟩
    exact Kd.R_lower (Kd.R_below HR.out HB3.out) (by simp)
  · have q1 : (code == 0) = false := by simpa using h0
    have H0 := Lib.hid h0
    clear h0
    go_wp2_with (first
      | (go_at_call 19; refine (frame_All_maker A l.length c _).mono ?_; rintro e w1 ⟨rfl, rfl⟩)
      | (go_at_call 25; refine KC.out.mono ?_; rintro e w2 ⟨v, rfl, hR, hb2⟩; have HB2 := Lib.hid (HB1.out.trans (hb2.mono HB1.out.size)); have HR := Lib.hid hR; clear hR hb2)
      | (go_at_call 26; refine (KW.out _ HB2.out).mono ?_; rintro e w3 ⟨rfl, hb3⟩; have HB3 := Lib.hid hb3; clear hb3))
    go_ret2
    refine ⟨_, rfl, ?_, HB2.out.trans (HB3.out.mono HB2.out.size)⟩
    exact Kd.R_nil _ _ _ _ _
end Go.Proofs.Ytcngadkcnnkimaa.Fr
