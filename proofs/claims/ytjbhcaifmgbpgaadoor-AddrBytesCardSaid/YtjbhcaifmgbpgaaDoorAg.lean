/-
  addr: host: four numbers with points between. Conditions: as the theorems state them.
-/
import Derived.Test.YtjbhcaifmgbpgaaDoorAf
import Derived.Test.YtjbhcaifmgbpgaaDoorAe
import Derived.WalkMore
import Derived.Deep.RegionHeld3
namespace Go.Proofs.YtjbhcaifmgbpgaaDoor.Ad
open Go Go.RowKit Go.Shelf Go.Proofs.YtjbhcaifmgbpgaaDoorW.PrintWords Go.Proofs.YtjbhcaifmgbpgaaDoorW.PrintLast Go.Proofs.YtjbhcaifmgbpgaaDoorW.PrintMore
set_option linter.unusedVariables false
set_option linter.unusedSimpArgs false
attribute [local go_sem] Oper.semAt_some
/-- A range over a function that ends, or is broken off, goes on in one place. -/
theorem wpIn_join {F : Fence} {n : Nat} {P : Program} {c : Code} {Q : Exit → Act → World → Prop} {a : Act} {w : World} (id : Nat) (Cond : Nat → World → Prop)
    (h1 : c.wpIn F n P (fun e a' W => (e = .normal ∨ e = .exit id) ∧ ∃ D, a' = { a with defers := { target := .collected D, args := #[] } :: a.defers } ∧ Cond D W) a w)
    (h2 : ∀ D W, Cond D W → Q .normal { a with defers := { target := .collected D, args := #[] } :: a.defers } W) (h3 : ∀ a' W, Q .normal a' W → Q (.exit id) a' W) : c.wpIn F n P Q a w :=
  wpIn_mono h1 (by
    rintro e a' W ⟨he, D, rfl, hc⟩
    rcases he with rfl | rfl
    · exact h2 D W hc
    · exact h3 _ _ (h2 D W hc))
def SeqBoxes (s : ByteArray) (b : Nat) (W : World) : Prop := W.heap[b]? = some (.cells #[.string s] 9 (0, 0)) ∧ W.heap[b + 1]? = some (.cells #[.string ⟨#[46]⟩] 9 (0, 0)) ∧ W.heap[b + 2]? = some (.cells #[.int .i64 0] 3 (0, 0))
theorem SeqBoxes.below {s : ByteArray} {b : Nat} {W W' : World} (h : SeqBoxes s b W) (k : Below W.heap.size W W') : SeqBoxes s b W' :=
  ⟨(k.block _ (Array.getElem?_eq_some_iff.1 h.1).1).trans h.1, (k.block _ (Array.getElem?_eq_some_iff.1 h.2.1).1).trans h.2.1, (k.block _ (Array.getElem?_eq_some_iff.1 h.2.2).1).trans h.2.2⟩
set_option maxRecDepth 100000 in
theorem seq45_calls (w : World) (s : ByteArray) : Calls Tryd.prog 45 #[.string s, .string ⟨#[46]⟩, .int .i64 0] w fun e w' => e = .returned (.func (.func 56) #[] #[.pointer (some ⟨w.heap.size + 1, 0, none⟩), .pointer (some ⟨w.heap.size, 0, none⟩), .pointer (some ⟨w.heap.size + 2, 0, none⟩)]) ∧ SeqBoxes s w.heap.size w' ∧ Below w.heap.size w w' := by
  go_enter Tryd.func45, Tryd.ntmps45
  go_wp2
  go_ret
  have hb : Below w.heap.size w (((w.alloc (.cells #[.string s] 9)).alloc (.cells #[.string ⟨#[46]⟩] 9)).alloc (.cells #[.int .i64 0] 3)) := (((Below.refl _ _).alloc (Nat.le_refl _) _).alloc (by simp) _).alloc (by simp; omega) _
  refine ⟨rfl, ⟨?_, ?_, ?_⟩, hb⟩
  · exact (Below.heap_alloc _ _ _ (by simp; omega)).trans ((Below.heap_alloc _ _ _ (by simp)).trans (World.alloc_heap_new w _))
  · refine (Below.heap_alloc _ _ _ (by simp)).trans ?_
    have h := World.alloc_heap_new (w.alloc (.cells #[.string s] 9)) (.cells #[.string ⟨#[46]⟩] 9)
    rwa [World.size_alloc] at h
  · have h := World.alloc_heap_new ((w.alloc (.cells #[.string s] 9)).alloc (.cells #[.string ⟨#[46]⟩] 9)) (.cells #[.int .i64 0] 3)
    rwa [World.size_alloc, World.size_alloc] at h
set_option maxRecDepth 100000 in
theorem splitseq_calls (w : World) (s : ByteArray) : Calls Tryd.prog 37 #[.string s, .string ⟨#[46]⟩] w fun e w' => e = .returned (.func (.func 56) #[] #[.pointer (some ⟨w.heap.size + 1, 0, none⟩), .pointer (some ⟨w.heap.size, 0, none⟩), .pointer (some ⟨w.heap.size + 2, 0, none⟩)]) ∧ SeqBoxes s w.heap.size w' ∧ Below w.heap.size w w' := by
  have K := Lib.hid (seq45_calls w s)
  go_enter Tryd.func37, Tryd.ntmps37
  go_wp2_with (go_at_call 45; refine K.out.mono ?_; rintro e w1 ⟨rfl, hb1, hc1⟩; have HB1 := Lib.hid (And.intro hb1 hc1); clear hb1 hc1)
  go_ret
  exact ⟨rfl, HB1.out⟩
theorem _root_.Go.Boxed.belowA {W W' : World} {B : Nat} {t : TypeId} {v : Value} (h : Boxed W B t v) (hb : Below W.heap.size W W') : Boxed W' B t v := (hb.block B h.lt).trans h
theorem wp_calm {P : Program} {c : Code} {Q : Exit → Act → World → Prop} {a : Act} {w : World} (h : c.wp P (Exit.then (fun a w => Q .normal a w) (fun _ _ _ => False)) a w) : c.wp P Q a w :=
  wp_mono h (by
    intro e a w h
    cases e <;> first | exact h | exact h.elim)
theorem or32 (x y : Int) (h0 : 0 ≤ x) (h1 : x ≤ 16777215) (y0 : 0 ≤ y) (y1 : y ≤ 255) : Go.bits .or .u32 ((x * 256) % 4294967296) (y % 4294967296) = x * 256 + y := by
  rw [show (x * 256) % 4294967296 = x * 256 by omega, show y % 4294967296 = y by omega]
  exact bits_join .u32 32 (by decide) (fun n h0 h1 => by rw [IntKind.wrap_u32]; omega) 8 (x * 256) y (by omega) (by omega) (by omega) y0 (by omega) (by omega)
theorem or64 (x y : Int) (h0 : 0 ≤ x) (h1 : x ≤ 16777215) (y0 : 0 ≤ y) (y1 : y ≤ 255) : Go.bits .or .i64 (wrap64 (x * 256)) (wrap64 y) = x * 256 + y := by
  rw [show wrap64 (x * 256) = x * 256 by unfold wrap64; omega, show wrap64 y = y by unfold wrap64; omega]
  exact bits_join .i64 63 (by decide) (fun n h0 h1 => by rw [IntKind.wrap_i64]; omega) 8 (x * 256) y (by omega) (by omega) (by omega) y0 (by omega) (by omega)
theorem keepsfrom_set {W w2 : World} {B : Nat} (hb : Below W.heap.size W w2) (p : Addr) (hp : p.block < B) (v : Value) : KeepsFrom B W (w2.setCell p v) :=
  ⟨by simpa [World.setCell] using hb.size, fun k o hB hk ho => (Below.heap_setCell _ _ _ _ (fun e => by omega)).trans ((hb.block k (Array.getElem?_eq_some_iff.1 hk).1).trans hk)⟩
theorem keepsfrom_set2 {W w2 : World} {B : Nat} (hb : Below W.heap.size W w2) (p q : Addr) (hp : p.block < B) (hq : q.block < B) (v z : Value) : KeepsFrom B W ((w2.setCell p v).setCell q z) :=
  ⟨by simpa [World.setCell] using hb.size, fun k o hB hk ho => (Below.heap_setCell _ _ _ _ (fun e => by omega)).trans ((Below.heap_setCell _ _ _ _ (fun e => by omega)).trans ((hb.block k (Array.getElem?_eq_some_iff.1 hk).1).trans hk))⟩
/-! ### host -/
theorem host_bad {s : Str} {pre r : List Str} {x : Str} (h : pre ++ x :: r = split1 46 s) (hx : numOk x 255 = false ∨ pre.length = 4) : hostOk s = false := by
  unfold hostOk
  rw [← h]
  rcases hx with hx | hx
  · rw [List.all_append, List.all_cons, hx]; simp
  · rw [List.length_append, List.length_cons, hx, decide_eq_false (by omega)]; rfl
theorem split_part {s x : Str} {pre r : List Str} (h : pre ++ x :: r = split1 46 s) : x.length ≤ s.length := by
  have e := join_split 46 s
  rw [← h] at e
  have : ∀ (pre : List Str), x.length ≤ (join1 46 (pre ++ x :: r)).length := by
    intro pre
    induction pre with
    | nil =>
      cases r with
      | nil => exact Nat.le_refl _
      | cons q r =>
        show x.length ≤ (x ++ 46 :: join1 46 (q :: r)).length
        rw [List.length_append]; omega
    | cons p pre ih =>
      rw [List.cons_append, join1_cons 46 p (by simp), List.length_append, List.length_cons]
      omega
  have := this pre
  rw [e] at this
  exact this
theorem hostV_snoc (pre : List Str) (x : Str) : hostV (pre ++ [x]) = hostV pre * 256 + (val x : Int) := by unfold hostV; rw [List.foldl_append]; rfl
theorem numOk_le {x : Str} {m : Int} (h : numOk x m = true) : (val x : Int) ≤ m := ((numOk_iff _ _).1 h).2
theorem hostV_go : ∀ (pre : List Str) (h : Int) (k : Nat), (∀ x ∈ pre, numOk x 255 = true) → 0 ≤ h → h < 256 ^ k → 0 ≤ pre.foldl (fun h p => h * 256 + (val p : Int)) h ∧ pre.foldl (fun h p => h * 256 + (val p : Int)) h < 256 ^ (k + pre.length)
  | [], h, k, _, h1, h2 => ⟨h1, h2⟩
  | x :: pre, h, k, ha, h1, h2 => by
    have h3 := numOk_le (ha x (by simp))
    have h4 : h * 256 + (val x : Int) < 256 ^ (k + 1) := by rw [Int.pow_succ]; omega
    have := hostV_go pre (h * 256 + (val x : Int)) (k + 1) (fun y hy => ha y (List.mem_cons_of_mem _ hy)) (by omega) h4
    rw [List.length_cons, show k + (pre.length + 1) = k + 1 + pre.length by omega]
    exact this
theorem hostV_in (pre : List Str) (h : ∀ x ∈ pre, numOk x 255 = true) : 0 ≤ hostV pre ∧ hostV pre < 256 ^ pre.length := by
  have := hostV_go pre 0 0 h (by omega) (by decide)
  rw [Nat.zero_add] at this
  exact this
set_option maxRecDepth 100000 in
set_option maxHeartbeats 4000000 in
theorem host_calls (w : World) (hE : Env w) (s : ByteArray) (hs : s.size ≤ 1000000) :
    Calls Tryd.prog 28 #[.string s] w fun e w' => ∃ h, e = .returned (.tuple #[.int .u32 h, .bool (hostOk s.data.toList)]) ∧ (hostOk s.data.toList = true → h = hostV (split1 46 s.data.toList)) ∧ Below w.heap.size w w' := by
  have HENV := Lib.hid hE
  have HS := Lib.hid hs
  clear hE hs
  refine (callsIn_wide (n := 8)).1 ?_
  refine callsIn_of_wp_marks Tryd.func28 rfl trivial (wpIn_wide.2 ?_) rfl
  simp only [Tryd.ntmps28, List.size_toArray, List.length_cons, List.length_nil, Nat.reduceAdd, Nat.reduceSub, Array.replicate_succ, Array.replicate_zero, List.push_toArray, List.append_toArray, List.nil_append, List.cons_append]
  go_wp2
  go_step3
  go_wp2
  go_step3
  obtain ⟨W0, hW0⟩ : ∃ W0, (w.alloc (.cells #[.int .u32 0] 22)).alloc (.cells #[.int .i64 0] 3) = W0 := ⟨_, rfl⟩
  have hb0 : Below w.heap.size w W0 := by rw [← hW0]; exact ((Below.refl _ _).alloc (Nat.le_refl _) _).alloc (by simp) _
  have hs0 : W0.heap.size = w.heap.size + 2 := by rw [← hW0]; simp
  have BH : Boxed W0 w.heap.size 22 (.int .u32 0) := by rw [← hW0]; exact (Boxed.new w 22 _).alloc _
  have BN : Boxed W0 (w.heap.size + 1) 3 (.int .i64 0) := by
    rw [← hW0]; have h := Boxed.new (w.alloc (.cells #[.int .u32 0] 22)) 3 (.int .i64 0); rw [World.size_alloc] at h; exact h
  have KS := Lib.hid (splitseq_calls W0 s)
  have HB0 := Lib.hid hb0
  have HS0 := Lib.hid hs0
  have HBH := Lib.hid BH
  have HBN := Lib.hid BN
  clear hb0 hs0 BH BN
  rw [hW0]
  go_wp2_with (go_at_call 37; refine KS.out.mono ?_; rintro e w1 ⟨rfl, hq1, hb1⟩; have HQ1 := Lib.hid hq1; have HB1 := Lib.hid hb1; clear hq1 hb1)
  clear hW0
  have hs0 := HS0.out
  have hs1 := HB1.out.size
  have hq := HQ1.out
  have hsz1 : w.heap.size + 5 ≤ w1.heap.size := by have := (Array.getElem?_eq_some_iff.1 hq.2.2).1; omega
  have hbw : Below w.heap.size w w1 := HB0.out.trans (HB1.out.mono (by omega))
  have BH : Boxed w1 w.heap.size 22 (.int .u32 0) := (HB1.out.block _ (by omega)).trans HBH.out
  have BN : Boxed w1 (w.heap.size + 1) 3 (.int .i64 0) := (HB1.out.block _ (by omega)).trans HBN.out
  have seq := seq_told 7 (by omega) s.data.toList HS.out (W0.heap.size + 1) W0.heap.size (W0.heap.size + 2) w1 (by omega) (by omega) hq.2.1 hq.1 hq.2.2
  rw [hs0] at seq
  refine (wpIn_wide (n := 8)).1 (wpIn_join 0 (fun D W => ∃ h k, Boxed W w.heap.size 22 (.int .u32 h) ∧ Boxed W (w.heap.size + 1) 3 (.int .i64 k) ∧ (hostOk s.data.toList = true → h = hostV (split1 46 s.data.toList)) ∧ ((k == 4) = hostOk s.data.toList) ∧ Below w.heap.size w W ∧ w.heap.size ≤ D ∧ W.heap[D]? = some (.deferred (some []))) ?_ ?_ ?_)
  · rw [hs0]
    refine range_w rfl (by omega) (gf := 56) (lb := #[.pointer (some ⟨w.heap.size + 2 + 1, 0, none⟩), .pointer (some ⟨w.heap.size + 2, 0, none⟩), .pointer (some ⟨w.heap.size + 2 + 2, 0, none⟩)]) rfl trivial (enters_of Tryd.func56 (by kernel_rfl) rfl)
      seq (by omega) KeepB.trans (fun W l o o' hl h _ _ => KeepB.put W l o' (fun hb => by omega)) (Below.refl _ _) (fun _ => rfl)
      (fun pre W => (∀ x ∈ pre, numOk x 255 = true) ∧ pre.length ≤ 4 ∧ Boxed W w.heap.size 22 (.int .u32 (hostV pre)) ∧ Boxed W (w.heap.size + 1) 3 (.int .i64 pre.length) ∧ Below w.heap.size w W ∧ w1.heap.size ≤ W.heap.size)
      (fun c pre W => c = .exit 0 ∧ hostOk s.data.toList = false ∧ (∃ h, Boxed W w.heap.size 22 (.int .u32 h)) ∧ Boxed W (w.heap.size + 1) 3 (.int .i64 0) ∧ Below w.heap.size w W ∧ w1.heap.size ≤ W.heap.size)
      ?hI ?hIx ?hIB ?h0 ?a1 ?assign ?body ?done ?stop
    case assign =>
      intro l x W K hK
      dsimp only [encS] at hK ⊢
      gi_wp2
      exact hK
    case hI =>
      rintro p X Y row ⟨h1, h2, h3, h4, h5, h6⟩ hg hr
      exact ⟨h1, h2, boxed_own _ _ (fun _ : Unit => _) () X Y row h3 hg (fun r e => (hr r e).2), boxed_own _ _ (fun _ : Unit => _) () X Y row h4 hg (fun r e => (hr r e).2), h5.grown hg h5.size (fun k e => by have := (hr k e).1; omega), Nat.le_trans h6 hg.size⟩
    case hIx =>
      rintro cc p X Y row ⟨h0, h1, ⟨h, h2⟩, h3, h4, h6⟩ hg hr
      exact ⟨h0, h1, ⟨h, boxed_own _ _ (fun _ : Unit => _) () X Y row h2 hg (fun r e => (hr r e).2)⟩, boxed_own _ _ (fun _ : Unit => _) () X Y row h3 hg (fun r e => (hr r e).2), h4.grown hg h4.size (fun k e => by have := (hr k e).1; omega), Nat.le_trans h6 hg.size⟩
    case hIB =>
      rintro p A v ⟨h1, h2, h3, h4, h5, h6⟩
      exact ⟨h1, h2, h3.other (by omega) v, h4.other (by omega) v, h5.setCell (p := ⟨w.heap.size + 2, 0, none⟩) (by show w.heap.size ≤ w.heap.size + 2; omega) v, by simpa [World.setCell] using h6⟩
    case h0 => exact ⟨by simp, by simp, BH, BN, hbw, Nat.le_refl _⟩
    case body =>
      rintro l pre x W ⟨hall, h4, b4, b5, hbl, hsz⟩ ⟨r, hr⟩
      have HALL := Lib.hid hall
      have hxl := split_part hr
      have HR := Lib.hid hr
      obtain ⟨hv0, hv1⟩ := hostV_in pre hall
      obtain ⟨j, hj⟩ : ∃ j, pre.length = j := ⟨_, rfl⟩
      obtain ⟨hv, hhv⟩ : ∃ hv, hostV pre = hv := ⟨_, rfl⟩
      rw [hj] at h4 b5 hv1
      rw [hhv] at b4 hv0 hv1
      have HJ := Lib.hid hj
      have HHV := Lib.hid hhv
      have HBL := Lib.hid hbl
      have B4 := Lib.hid b4
      have B5 := Lib.hid b5
      have HSZ := Lib.hid hsz
      have HV0 := Lib.hid hv0
      have HV1 := Lib.hid hv1
      have KN := Lib.hid (number_calls W (HENV.out.below hbl) (mk x) (by rw [mk_size]; exact Nat.le_trans hxl HS.out) 255 (by decide) (by decide))
      have H4 := Lib.hid h4
      clear hall hr hj hhv b4 b5 seq BH BN hbl hsz hq hv0 hv1 hxl h4
      have bad : ∀ (w2 : World), Below W.heap.size W w2 → hostOk s.data.toList = false → KeepsFrom w1.heap.size W (w2.setCell ⟨w.heap.size + 1, 0, none⟩ (.int .i64 0)) ∧ (hostOk s.data.toList = false ∧ (∃ h, Boxed (w2.setCell ⟨w.heap.size + 1, 0, none⟩ (.int .i64 0)) w.heap.size 22 (.int .u32 h)) ∧ Boxed (w2.setCell ⟨w.heap.size + 1, 0, none⟩ (.int .i64 0)) (w.heap.size + 1) 3 (.int .i64 0) ∧ Below w.heap.size w (w2.setCell ⟨w.heap.size + 1, 0, none⟩ (.int .i64 0)) ∧ w1.heap.size ≤ (w2.setCell ⟨w.heap.size + 1, 0, none⟩ (.int .i64 0)).heap.size) := fun w2 hb2 hno =>
        ⟨keepsfrom_set hb2 _ (by show w.heap.size + 1 < _; omega) _, hno, ⟨_, (Boxed.belowA B4.out hb2).other (by omega) _⟩, (Boxed.belowA B5.out hb2).set _, (HBL.out.trans (hb2.mono HBL.out.size)).setCell (p := ⟨w.heap.size + 1, 0, none⟩) (by show w.heap.size ≤ w.heap.size + 1; omega) _, by have := HSZ.out; have := hb2.size; simp [World.setCell]; omega⟩
      have BAD := Lib.hid bad
      clear bad
      cases hnum : numOk x 255 with
      | false =>
        have HNUM := Lib.hid hnum
        have KN2 : Hid (Calls Tryd.prog 29 #[.string (mk x), .int .i64 255] W fun e w2 => ∃ v, e = .returned (.tuple #[.int .i64 v, .bool false]) ∧ Below W.heap.size W w2) := Lib.hid (KN.out.mono (fun e w2 ⟨v, h1, h2, h3⟩ => ⟨v, by rw [h1, mk_data, HNUM.out], h3⟩))
        clear hnum
        gi_wp2_with (refine ⟨trivial, ?_⟩; gi_at_call 29; refine (CallsIn.inRound l (callsIn_wide.2 KN2.out)).mono ?_; rintro e w2 ⟨v, rfl, hb2⟩; have c4 := (Boxed.belowA B4.out hb2).cell; have f4 := (Boxed.belowA B4.out hb2).frozen; have c5 := (Boxed.belowA B5.out hb2).cell; have f5 := (Boxed.belowA B5.out hb2).frozen; have HB2 := Lib.hid hb2; clear hb2)
        have hB := BAD.out _ HB2.out (host_bad HR.out (.inl HNUM.out))
        exact ⟨hB.1, rfl, hB.2⟩
      | true =>
        have HNUM := Lib.hid hnum
        have KN2 : Hid (Calls Tryd.prog 29 #[.string (mk x), .int .i64 255] W fun e w2 => e = .returned (.tuple #[.int .i64 (val x : Int), .bool true]) ∧ Below W.heap.size W w2) := Lib.hid (KN.out.mono (fun e w2 ⟨v, h1, h2, h3⟩ => by
          rw [mk_data] at h1 h2
          rw [HNUM.out] at h1
          rw [h2 HNUM.out] at h1
          exact ⟨h1, h3⟩))
        have hvl := numOk_le hnum
        obtain ⟨v, hv⟩ : ∃ v : Int, (val x : Int) = v := ⟨_, rfl⟩
        have hv0 : 0 ≤ v := by omega
        rw [hv] at KN2 hvl
        have HVX := Lib.hid hv
        clear hnum hv
        by_cases hj4 : j = 4
        · have HJ4 := Lib.hid hj4
          have q1 : ((j : Int) == 4) = true := by simp [hj4]
          clear hj4 hvl hv0
          gi_wp2_with (refine ⟨trivial, ?_⟩; gi_at_call 29; refine (CallsIn.inRound l (callsIn_wide.2 KN2.out)).mono ?_; rintro e w2 ⟨rfl, hb2⟩; have c4 := (Boxed.belowA B4.out hb2).cell; have f4 := (Boxed.belowA B4.out hb2).frozen; have c5 := (Boxed.belowA B5.out hb2).cell; have f5 := (Boxed.belowA B5.out hb2).frozen; have HB2 := Lib.hid hb2; clear hb2)
          have hB := BAD.out _ HB2.out (host_bad HR.out (.inr (HJ.out.trans HJ4.out)))
          exact ⟨hB.1, rfl, hB.2⟩
        · have hj3 : j ≤ 3 := by have := H4.out; omega
          have hvb : hv ≤ 16777215 := by
            have h1 := HV1.out
            have h2 : (256 : Int) ^ j ≤ 256 ^ 3 := by
              match j, hj3 with
              | 0, _ => decide
              | 1, _ => decide
              | 2, _ => decide
              | 3, _ => decide
            have h3 : (256 : Int) ^ 3 = 16777216 := by decide
            omega
          have q1 : ((j : Int) == 4) = false := by rw [beq_eq_false_iff_ne]; omega
          have q2 := or32 hv v HV0.out hvb hv0 hvl
          have q3 : wrap64 ((j : Int) + 1) = j + 1 := by unfold wrap64; omega
          have HJ3 := Lib.hid hj3
          clear hj4 hvl hv0 hj3 hvb
          gi_wp2_with (refine ⟨trivial, ?_⟩; gi_at_call 29; refine (CallsIn.inRound l (callsIn_wide.2 KN2.out)).mono ?_; rintro e w2 ⟨rfl, hb2⟩; have c4 := (Boxed.belowA B4.out hb2).cell; have f4 := (Boxed.belowA B4.out hb2).frozen; have c5 := (Boxed.belowA B5.out hb2).cell; have f5 := (Boxed.belowA B5.out hb2).frozen; have HB2 := Lib.hid hb2; clear hb2)
          have hb2 := HB2.out
          have hw1 := hb2.size
          have hsz := HSZ.out
          refine ⟨keepsfrom_set2 hb2 _ _ (by show w.heap.size < _; omega) (by show w.heap.size + 1 < _; omega) _ _, ⟨by simpa [World.setCell] using hw1, ?_⟩, ?_, ?_, ?_, ?_, ?_, ?_⟩
          · intro b hb
            exact (Below.heap_setCell _ _ _ _ (fun e => by have e : b = w.heap.size + 1 := e; omega)).trans ((Below.heap_setCell _ _ _ _ (fun e => by have e : b = w.heap.size := e; omega)).trans (hb2.block b (by omega)))
          · intro y hy
            rcases List.mem_append.1 hy with hy | hy
            · exact HALL.out y hy
            · rw [List.mem_singleton.1 hy]; exact HNUM.out
          · rw [List.length_append, List.length_singleton, HJ.out]; have := HJ3.out; omega
          · rw [hostV_snoc, HHV.out, HVX.out]
            exact ((Boxed.belowA B4.out hb2).set _).other (by omega) _
          · rw [List.length_append, List.length_singleton, HJ.out]
            have := ((Boxed.belowA B5.out hb2).other (B' := w.heap.size) (by omega) (.int .u32 (hv * 256 + v))).set (.int .i64 ((j : Int) + 1))
            simpa using this
          · exact ((HBL.out.trans (hb2.mono HBL.out.size)).setCell (p := ⟨w.heap.size, 0, none⟩) (Nat.le_refl _) _).setCell (p := ⟨w.heap.size + 1, 0, none⟩) (by show w.heap.size ≤ w.heap.size + 1; omega) _
          · simp [World.setCell]; omega
    case done =>
      intro D xs W hD hxs hi hK
      obtain ⟨h1, h2, h3, h4, h5, h6⟩ := hi
      subst hxs
      refine ⟨.inl rfl, D, rfl, _, _, h3, h4, fun _ => rfl, ?_, h5, by omega, hK⟩
      have e2 : (split1 46 s.data.toList).all (fun p => numOk p 255) = true := List.all_eq_true.2 h1
      unfold hostOk
      rw [e2, Bool.and_true]
      by_cases hl : (split1 46 s.data.toList).length = 4
      · rw [hl]; rfl
      · rw [decide_eq_false hl, beq_eq_false_iff_ne]; omega
    case stop =>
      intro D c pre W hD hS hi hK
      obtain ⟨rfl, h1, ⟨h, h2⟩, h3, h4, h6⟩ := hi
      have H2 := Lib.hid h2
      have H3 := Lib.hid h3
      gi_wp2
      exact ⟨⟨h, H2.out⟩, 0, H3.out, by decide, by omega⟩
  · rintro D W ⟨h, k, b4, b5, hv, hk, hbl, hDs, hD⟩
    have HDS := Lib.hid hDs
    have HDD := Lib.hid hD
    clear hDs hD
    have c4 := b4.cell
    have c5 := b5.cell
    have HV := Lib.hid hv
    have HK := Lib.hid hk
    have HBL := Lib.hid hbl
    clear hv hk hbl b4 b5 seq BH BN
    go_wp2
    refine wp_calm ?_
    refine wp_region_held_drew (S := fun w' => w'.cell? ⟨w.heap.size, 0, none⟩ = some (.int .u32 h) ∧ w'.cell? ⟨w.heap.size + 1, 0, none⟩ = some (.int .i64 k)) (by kernel_rfl) ?_ (fun hHeld => ?_)
    · exact ⟨c4, c5⟩
    refine wpAnyH_take (i := 0) (v := ?_) rfl (by kernel_rfl) (by kernel_rfl) (by kernel_rfl) (fun _ _ _ h => h) (Or.inl ⟨by rfl, ?_⟩) (by assumption) ?_
    rotate_left
    · (intro w hSw; (try dsimp only at hSw); obtain ⟨hs1, hs2⟩ := hSw; go_simp; try with_reducible rfl)
    try simp only [Act.put, List.setIfInBounds_toArray, List.set_cons_zero, List.set_cons_succ, List.getElem_toArray, List.getElem_cons_succ, List.getElem_cons_zero]
    refine wpAnyH_take (i := 1) (v := ?_) rfl (by kernel_rfl) (by kernel_rfl) (by kernel_rfl) (fun _ _ _ h => h) (Or.inl ⟨by rfl, ?_⟩) (by assumption) ?_
    rotate_left
    · (intro w hSw; (try dsimp only at hSw); obtain ⟨hs1, hs2⟩ := hSw; go_simp; try with_reducible rfl)
    try simp only [Act.put, List.setIfInBounds_toArray, List.set_cons_zero, List.set_cons_succ, List.getElem_toArray, List.getElem_cons_succ, List.getElem_cons_zero]
    refine wpAnyH_take (i := 2) (v := ?_) rfl (by kernel_rfl) (by kernel_rfl) (by kernel_rfl) (fun _ _ _ h => h) (Or.inl ⟨by rfl, ?_⟩) (by assumption) ?_
    rotate_left
    · (intro w hSw; (try dsimp only at hSw); obtain ⟨hs1, hs2⟩ := hSw; go_simp; try with_reducible rfl)
    try simp only [Act.put, List.setIfInBounds_toArray, List.set_cons_zero, List.set_cons_succ, List.getElem_toArray, List.getElem_cons_succ, List.getElem_cons_zero]
    refine wpAnyH_take (i := 3) (v := ?_) rfl (by kernel_rfl) (by kernel_rfl) (by kernel_rfl) (fun _ _ _ h => h) (Or.inl ⟨by rfl, ?_⟩) (by assumption) ?_
    rotate_left
    · (intro w hSw; (try dsimp only at hSw); obtain ⟨hs1, hs2⟩ := hSw; go_simp; try with_reducible rfl)
    try simp only [Act.put, List.setIfInBounds_toArray, List.set_cons_zero, List.set_cons_succ, List.getElem_toArray, List.getElem_cons_succ, List.getElem_cons_zero]
    refine wpAnyH_take (i := 4) (v := ?_) rfl (by kernel_rfl) (by kernel_rfl) (by kernel_rfl) (fun _ _ _ h => h) (Or.inl ⟨by rfl, ?_⟩) (by assumption) ?_
    rotate_left
    · (intro w hSw; (try dsimp only at hSw); obtain ⟨hs1, hs2⟩ := hSw; go_simp; try with_reducible rfl)
    try simp only [Act.put, List.setIfInBounds_toArray, List.set_cons_zero, List.set_cons_succ, List.getElem_toArray, List.getElem_cons_succ, List.getElem_cons_zero]
    refine wpAnyH_done (by kernel_rfl) ?_ _
    dsimp only [Exit.then]
    go_wp2
    have hD2 : W.drew.heap[D]? = some (.deferred (some [])) := HDD.out
    refine ⟨by simp, .inl ⟨_, _, rfl, run_takeDeferred hD2, ?_⟩⟩
    refine ⟨.tuple #[.int .u32 h, .bool (k == 4)], ?_, h, ?_, HV.out, ?_⟩
    · simp [results, Tryd.f28, go_sem]
    · rw [HK.out]
    · exact (HBL.out.trans ((drew_below W).mono HBL.out.size)).trans (belowK_b (w := w) (Nat.le_refl _) _ D _ _ HDS.out hD2 rfl rfl)
  · intro a' W h
    exact h
end Go.Proofs.YtjbhcaifmgbpgaaDoor.Ad
