/-
  wire's reader: what stands in it, number and body. Conditions: bytes are bytes.
-/
import Derived.Test.YtklcggcejaecdaaWm
import Derived.Test.YtklcggcejaecdaaWFoot
namespace Go.Proofs.Ytklcggcejaecdaa.Wi
open Go.RowKit Go.Proofs.Ytklcggcejaecdaa.H Go.Proofs.Ytklcggcejaecdaa.Uv Go.Proofs.Ytklcggcejaecdaa.Fr Go.Proofs.YtklcggcejaecdaaW.PrintWords Go.Proofs.YtklcggcejaecdaaW.PrintLast Go.Proofs.YtklcggcejaecdaaW.PrintMore
set_option linter.unusedVariables false
set_option linter.unusedSimpArgs false
theorem info8 : (Try.prog.info? 5).map (fun i => (i.zero, i.size, i.bytes)) = some (some (.int .u8 0), 1, 1) := by kernel_rfl
/-- What lay in W0 lies as it lay. -/
def Same (W0 V : World) : Prop := ∀ b, b < W0.heap.size → V.heap[b]? = W0.heap[b]?
theorem Same.below {W0 V : World} (h : Below W0.heap.size W0 V) : Same W0 V := fun b hb => h.block b hb
/-- Nothing but the block g (and what is new) has turned. -/
def OffG (g : Nat) (w w' : World) : Prop := w.grownBy w' (some g)
theorem OffG.refl (g : Nat) (w : World) : OffG g w w := ⟨rfl, rfl, rfl, Nat.le_refl _, fun _ _ _ => rfl⟩
theorem OffG.trans {g : Nat} {a b c : World} (h : OffG g a b) (k : OffG g b c) : OffG g a c := ⟨k.os.trans h.os, k.tape.trans h.tape, k.output.trans h.output, Nat.le_trans h.size k.size, fun i hi hn => (k.block i (Nat.lt_of_lt_of_le hi h.size) hn).trans (h.block i hi hn)⟩
theorem OffG.below {g : Nat} {w w' : World} (h : Below w.heap.size w w') : OffG g w w' := ⟨h.os, h.tape, h.output, h.size, fun b hb _ => h.block b hb⟩
theorem OffG.set {g : Nat} (w : World) (i : Nat) (v : Value) : OffG g w (w.setCell ⟨g, i, none⟩ v) := ⟨rfl, rfl, rfl, by simp [World.setCell], fun b _ hn => Below.heap_setCell w _ v b (fun e => hn (by rw [e]))⟩
theorem OffG.blk {g : Nat} {w w' : World} (h : OffG g w w') {b : Nat} {o : Obj} (hb : w.heap[b]? = some o) (hne : b ≠ g) : w'.heap[b]? = some o := (h.block b (Array.getElem?_eq_some_iff.1 hb).1 (fun e => hne (by injection e))).trans hb
/-- Since w, whose blocks lie below g, nothing that lay has turned. -/
theorem OffG.since {w w1 w2 : World} {g : Nat} (h : Below w.heap.size w w1) (hg : w.heap.size ≤ g) (ho : OffG g w1 w2) : Below w.heap.size w w2 :=
  ⟨ho.os.trans h.os, ho.tape.trans h.tape, ho.output.trans h.output, Nat.le_trans h.size ho.size, fun b hb => (ho.block b (Nat.lt_of_lt_of_le hb h.size) (fun e => by injection e; omega)).trans (h.block b hb)⟩
/-- A reader: the bytes that are left, and whether something was wrong. -/
def RdAt (W0 w : World) (g : Nat) (l : List Int) (bad : Bool) : Prop :=
  ∃ A c, w.heap[g]? = some (.cells #[.slice A l.length c, .bool bad] 58 (0, 0)) ∧ l.length ≤ c ∧ ∀ V, Same W0 V → (Kd.int .u8).C V A l.length l
theorem RdAt.lt {W0 w : World} {g : Nat} {l : List Int} {bad : Bool} (h : RdAt W0 w g l bad) : g < w.heap.size := by
  obtain ⟨A, c, h1, _⟩ := h
  exact (Array.getElem?_eq_some_iff.1 h1).1
theorem RdAt.step {W0 w w' : World} {g : Nat} {l : List Int} {bad : Bool} (h : RdAt W0 w g l bad) (hb : w'.heap[g]? = w.heap[g]?) : RdAt W0 w' g l bad := by
  obtain ⟨A, c, h1, h2⟩ := h
  exact ⟨A, c, hb.trans h1, h2⟩
theorem comb_no {a : Int} {d : Int × Int × Int} (h : (comb a d).2.2 ≠ 0) (hd : d.2.2 ≠ 0 → d.2.1 = 0) : (comb a d).2.1 = 0 := by
  unfold comb at h ⊢
  split at h <;> rename_i hc
  · first | exact absurd rfl h | simp_all
  · simp_all
theorem getI_no {l : List Int} (h : (getI l).2.2 ≠ 0) : (getI l).2.1 = 0 := by
  unfold getI at h ⊢
  generalize true = f at h ⊢
  generalize 9 = n at h ⊢
  induction n generalizing f l with
  | zero => cases l <;> rfl
  | succ n ih =>
    cases l with
    | nil => rfl
    | cons c r =>
      simp only [D] at h ⊢
      split at h
      · rename_i hc
        rw [if_pos hc]
        split at h
        · rename_i hz; rw [if_pos hz]
        · exact absurd rfl h
      · rename_i hc
        rw [if_neg hc]
        exact comb_no h (fun hd => ih false hd)
theorem getI_cut {l : List Int} (hb : Bytes l) : 0 ≤ (getI l).2.1 ∧ (getI l).2.1 ≤ l.length := by
  by_cases h : (getI l).2.2 = 0
  · have := getI_in hb h; omega
  · rw [getI_no h]; omega
/-- A number read: the number, what is left, and whether something was wrong. -/
def numR (l : List Int) (bad : Bool) : Int × List Int × Bool := ((getI l).1, l.drop (getI l).2.1.toNat, bad || (getI l).2.2 != 0)
set_option maxRecDepth 100000 in
set_option maxHeartbeats 2000000 in
theorem number_calls (W0 w : World) (g : Nat) (l : List Int) (bad : Bool) (h : RdAt W0 w g l bad) (hs : Same W0 w) (hb : Bytes l) :
    Calls Try.prog 35 #[.pointer (some ⟨g, 0, none⟩)] w fun e w' => e = .returned (.int .u64 (numR l bad).1) ∧ RdAt W0 w' g (numR l bad).2.1 (numR l bad).2.2 ∧ OffG g w w' := by
  obtain ⟨A, c, hg, hc, hC⟩ := h
  obtain ⟨hk0, hk1⟩ := getI_cut hb
  unfold numR
  obtain ⟨⟨v, k, e⟩, hG⟩ : ∃ q, getI l = q := ⟨_, rfl⟩
  rw [hG] at hk0 hk1
  rw [hG]
  dsimp only at hk0 hk1 ⊢
  obtain ⟨i0, hi0, _, hsz0, _⟩ := info_parts info8
  obtain ⟨A9, hcut9, hA9, hC9⟩ := print_drop_of (P := Try.prog) (Value.int .u8) 0 24 5 .i64 Try.underlying24 hi0 hsz0 A c l k hk0 hk1 hc
  obtain ⟨m, hm⟩ : ∃ m, (l.drop k.toNat).length = m := ⟨_, rfl⟩
  obtain ⟨n, hn⟩ : ∃ n, l.length = n := ⟨_, rfl⟩
  have HC9 := Lib.hid (show ∀ V, Same W0 V → (Kd.int .u8).C V A9 (l.drop k.toNat).length (l.drop k.toNat) from fun V hV => Kd.C_of_reads (h1 := fun _ => rfl) (hA9 V (Kd.reads_of_C (hC V hV))))
  have HLE := Lib.hid hC9
  rw [hm, hn] at hcut9
  rw [hn] at hg hc
  have hglt : g < w.heap.size := (Array.getElem?_eq_some_iff.1 hg).1
  have KU := Lib.hid (uget_n w A n c l hn.symm (by rw [← hn]; exact hC w hs) hc hb v k e hG)
  have q0 : w.cell? ⟨g, 0, none⟩ = some (.slice A n c) := (blk_cell hg 0).trans rfl
  obtain ⟨q, hq⟩ : ∃ q, (e != 0) = q := ⟨_, rfl⟩
  rw [hq]
  have HG := Lib.hid hg
  have HM := Lib.hid hm
  clear hA9 hC9 hi0 hsz0 hC hG hn hg hm hs hb
  cases bad with
  | true =>
    have HQ := Lib.hid hq
    clear hq
    go_enter Try.func35, Try.ntmps35
    go_wp2_with (go_at_call 44; with_reducible refine KU.out.mono ?_; rintro e1 w1 ⟨rfl, hb1⟩; have HB1 := Lib.hid hb1; have hx := (hb1.block g hglt).trans HG.out; have HX := Lib.hid hx; have p0 := (blk_cell hx 0).trans rfl; have p1 := (blk_cell hx 1).trans rfl; have f0 := blk_frozen hx 0; have f1 := blk_frozen hx 1; clear hb1 hx)
    go_ret
    refine ⟨rfl, ⟨A9, c - k.toNat, ?_, HLE.out, HC9.out⟩, ((OffG.below HB1.out).trans (OffG.set _ _ _)).trans (OffG.set _ _ _)⟩
    rw [HM.out]
    exact blk_put (blk_put HX.out 1 _ rfl) 0 _ rfl
  | false =>
    go_enter Try.func35, Try.ntmps35
    go_wp2_with (go_at_call 44; with_reducible refine KU.out.mono ?_; rintro e1 w1 ⟨rfl, hb1⟩; have HB1 := Lib.hid hb1; have hx := (hb1.block g hglt).trans HG.out; have HX := Lib.hid hx; have p0 := (blk_cell hx 0).trans rfl; have p1 := (blk_cell hx 1).trans rfl; have f0 := blk_frozen hx 0; have f1 := blk_frozen hx 1; clear hb1 hx)
    go_ret
    refine ⟨rfl, ⟨A9, c - k.toNat, ?_, HLE.out, HC9.out⟩, ((OffG.below HB1.out).trans (OffG.set _ _ _)).trans (OffG.set _ _ _)⟩
    rw [HM.out]
    exact blk_put (blk_put HX.out 1 _ rfl) 0 _ rfl
/-- A body read: a frame that is all that is left, and whether something was wrong. -/
def bodyR (l : List Int) (bad : Bool) : List Int × Bool := ((getF l).1, bad || ((getF l).2.2 != 0 || (getF l).2.1 != (l.length : Int)))
set_option maxRecDepth 100000 in
set_option maxHeartbeats 2000000 in
theorem body_calls (W0 w : World) (g : Nat) (l : List Int) (bad : Bool) (h : RdAt W0 w g l bad) (hs : Same W0 w) (hb : Bytes l) (hl : l.length ≤ 1000000000) :
    Calls Try.prog 37 #[.pointer (some ⟨g, 0, none⟩)] w fun e w' => (∃ v, e = .returned v ∧ (Kd.int .u8).R 5 w' w.heap.size (fun k => w.heap.size ≤ k ∧ k < w'.heap.size) v (bodyR l bad).1) ∧ w'.cell? ⟨g, 1, none⟩ = some (.bool (bodyR l bad).2) ∧ OffG g w w' := by
  obtain ⟨A, c, hg, hc, hC⟩ := h
  unfold bodyR
  obtain ⟨⟨t, k, e⟩, hF⟩ : ∃ q, getF l = q := ⟨_, rfl⟩
  rw [hF]
  dsimp only
  obtain ⟨n, hn⟩ : ∃ n, l.length = n := ⟨_, rfl⟩
  rw [hn] at hg hc hl
  rw [hn]
  have hglt : g < w.heap.size := (Array.getElem?_eq_some_iff.1 hg).1
  have KU := Lib.hid (fget_n w A n c l hn.symm (by rw [← hn]; exact hC w hs) hc hb hl t k e hF)
  have q0 : w.cell? ⟨g, 0, none⟩ = some (.slice A n c) := (blk_cell hg 0).trans rfl
  obtain ⟨q, hq⟩ : ∃ q, (e != 0) = q := ⟨_, rfl⟩
  obtain ⟨r, hr⟩ : ∃ r, (k != (n : Int)) = r := ⟨_, rfl⟩
  rw [hq, hr]
  have HG := Lib.hid hg
  clear hC hF hn hg hs hb hc hl
  have HEND := Lib.hid (show ∀ (w1 : World) (v0 : Value) (b : Bool), (Kd.int .u8).R 5 w1 w.heap.size (fun _ => True) v0 t → Below w.heap.size w w1 → w1.heap[g]? = some (.cells #[.slice A n c, .bool bad] 58 (0, 0)) →
      (Kd.int .u8).R 5 (w1.setCell ⟨g, 1, none⟩ (.bool b)) w.heap.size (fun k => w.heap.size ≤ k ∧ k < (w1.setCell ⟨g, 1, none⟩ (.bool b)).heap.size) v0 t ∧ (w1.setCell ⟨g, 1, none⟩ (.bool b)).cell? ⟨g, 1, none⟩ = some (.bool b) ∧ OffG g w (w1.setCell ⟨g, 1, none⟩ (.bool b)) from fun w1 v0 b hR hB hx => by
    have hsz : (w1.setCell ⟨g, 1, none⟩ (.bool b)).heap.size = w1.heap.size := by simp [World.setCell]
    refine ⟨?_, (blk_cell (blk_put hx 1 (.bool b) rfl) 1).trans rfl, (OffG.below hB).trans (OffG.set _ _ _)⟩
    rw [hsz]
    exact Kd.R_far (p := ⟨g, 1, none⟩) (Kd.R_mono (Kd.R_bound hR) (fun k hk => ⟨hk.2.1, hk.2.2.1⟩)) (fun k hk e => by simp at e; omega) _)
  cases bad with
  | true =>
    have HQ := Lib.hid hq
    have HR := Lib.hid hr
    clear hq hr
    go_enter Try.func37, Try.ntmps37
    go_wp2_with (go_at_call 47; with_reducible refine KU.out.mono ?_; rintro e1 w1 ⟨v0, rfl, hR1, hb1⟩; have HB1 := Lib.hid hb1; have HR1 := Lib.hid hR1; have hx := (hb1.block g hglt).trans HG.out; have HX := Lib.hid hx; have p0 := (blk_cell hx 0).trans rfl; have p1 := (blk_cell hx 1).trans rfl; have f0 := blk_frozen hx 0; have f1 := blk_frozen hx 1; clear hb1 hx hR1)
    go_ret
    obtain ⟨h1, h2, h3⟩ := HEND.out w1 v0 true HR1.out HB1.out HX.out
    exact ⟨⟨v0, rfl, h1⟩, h2, h3⟩
  | false =>
    cases q with
    | true =>
      have HR := Lib.hid hr
      clear hr
      go_enter Try.func37, Try.ntmps37
      go_wp2_with (go_at_call 47; with_reducible refine KU.out.mono ?_; rintro e1 w1 ⟨v0, rfl, hR1, hb1⟩; have HB1 := Lib.hid hb1; have HR1 := Lib.hid hR1; have hx := (hb1.block g hglt).trans HG.out; have HX := Lib.hid hx; have p0 := (blk_cell hx 0).trans rfl; have p1 := (blk_cell hx 1).trans rfl; have f0 := blk_frozen hx 0; have f1 := blk_frozen hx 1; clear hb1 hx hR1)
      go_ret
      obtain ⟨h1, h2, h3⟩ := HEND.out w1 v0 true HR1.out HB1.out HX.out
      exact ⟨⟨v0, rfl, h1⟩, h2, h3⟩
    | false =>
      go_enter Try.func37, Try.ntmps37
      go_wp2_with (go_at_call 47; with_reducible refine KU.out.mono ?_; rintro e1 w1 ⟨v0, rfl, hR1, hb1⟩; have HB1 := Lib.hid hb1; have HR1 := Lib.hid hR1; have hx := (hb1.block g hglt).trans HG.out; have HX := Lib.hid hx; have p0 := (blk_cell hx 0).trans rfl; have p1 := (blk_cell hx 1).trans rfl; have f0 := blk_frozen hx 0; have f1 := blk_frozen hx 1; clear hb1 hx hR1)
      go_ret
      obtain ⟨h1, h2, h3⟩ := HEND.out w1 v0 r HR1.out HB1.out HX.out
      exact ⟨⟨v0, rfl, h1⟩, h2, h3⟩
end Go.Proofs.Ytklcggcejaecdaa.Wi
