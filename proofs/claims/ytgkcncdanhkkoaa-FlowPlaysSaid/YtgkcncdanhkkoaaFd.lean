/-
  The stream's receiver: Read. Conditions: as in the texts that it imports.
-/
import Derived.Test.YtgkcncdanhkkoaaFl
namespace Go.Proofs.Ytgkcncdanhkkoaa.Fw
open Go.RowKit Go.Maps Go.Proofs.Ytgkcncdanhkkoaa.Sp Go.Proofs.YtgkcncdanhkkoaaW.PrintWords Go.Proofs.YtgkcncdanhkkoaaW.PrintLast Go.Proofs.YtgkcncdanhkkoaaW.PrintMore
set_option linter.unusedVariables false
set_option linter.unusedSimpArgs false
def readN (r : Rc) (most : Int) : Nat := min most.toNat (r.b.length - r.read)
def readB (r : Rc) (most : Int) : List Int := (r.b.drop r.read).take (readN r most)
def readR (r : Rc) (most : Int) : Rc := { r with read := r.read + readN r most }
theorem rcv_E (q : Nat) (hq : q ∈ (5 : Nat) :: (Kd.int .u8).E) : q ≠ 64 := by
  have h : (Kd.int .u8).E = [] := rfl
  rw [h, List.mem_singleton] at hq
  rw [hq]
  decide
theorem read_done {base g : Nat} {r : Rc} {w w2 : World} {ok : Nat → Prop} {most : Int} {B : Nat} {v : Value} {D : DataW Unit} (h1 : w.heap[g]? = some (.cells #[.int .i64 r.win, v, .int .i64 r.read, .map (some B)] 64 (0, 0))) (h2 : ok g ∧ ok B ∧ base ≤ g ∧ base ≤ B)
    (h5 : w.ownsMap Try.prog 3 (plainElem Try.prog 5) B r.n D) (h6 : Bey D r.b.length r.G) (h7 : (Kd.int .u8).R 5 w base ok v r.b) (h8 : r.half) (h9 : r.G r.b.length = none) (hb : Below w.heap.size w w2) :
    RcvAt base g (readR r most) (w2.setCell ⟨g, 2, none⟩ (.int .i64 ((r.read + readN r most : Nat) : Int))) ok := by
  have hgl : g < w.heap.size := (Array.getElem?_eq_some_iff.1 h1).1
  have h1' := (hb.block g hgl).trans h1
  have hBl : B < w.heap.size := h5.lt
  have hne : B ≠ g := fun e => by
    obtain ⟨es, cl, hb, _⟩ := h5
    rw [e, h1] at hb
    cases hb
  obtain ⟨b1, b2, b3, b4, b5, b6, b7⟩ := h8
  refine ⟨⟨B, v, D, set_cellsN 2 h1' rfl, h2, map_move h5 ((Below.heap_setCell _ _ _ _ hne).trans (hb.block B hBl)), h6, Kd.R_set (Kd.R_below h7 hb) h1' rcv_E 2 _, ⟨b1, ?_, b3, b4, b5, b6, b7⟩⟩, h9⟩
  show r.read + readN r most ≤ r.b.length
  unfold readN
  omega
/-- x[a : a + n]. -/
theorem mid_cut (A : Option Addr) (c : Nat) (xs : List Int) (a n : Nat) (hm : a + n ≤ xs.length) (hc : xs.length ≤ c) :
    ∃ A' : Option Addr, (∀ W : World, (Instr.slice 22 (.slice A xs.length c) (some (.int .i64 (a : Int))) (some (.int .i64 ((a : Int) + (n : Int)))) none).run Try.prog W = .ok (.slice A' n (c - a)) W) ∧
      ∀ w : World, (Kd.int .u8).C w A xs.length xs → (Kd.int .u8).C w A' n ((xs.drop a).take n) := by
  obtain ⟨i0, hi0, _, hsz0, _⟩ := info_parts info8
  obtain ⟨A', h1, h2, h3⟩ := print_mid_of (P := Try.prog) (Value.int .u8) 0 22 5 .i64 .i64 Try.underlying22 hi0 hsz0 A c xs (a : Int) ((a : Int) + (n : Int)) (by omega) (by omega) (by omega) hc
  have e1 : ((a : Int) + (n : Int)).toNat = a + n := by omega
  have e2 : ((xs.take (a + n)).drop a) = (xs.drop a).take n := by rw [List.drop_take, Nat.add_sub_cancel_left]
  have e3 : ((xs.drop a).take n).length = n := by rw [List.length_take, List.length_drop]; omega
  rw [e1, Int.toNat_natCast, e2, e3] at h1
  rw [e1, Int.toNat_natCast, e2, e3] at h2
  exact ⟨A', h1, fun w h => Kd.C_of_reads (h1 := fun _ => rfl) (h2 w (Kd.reads_of_C h))⟩
set_option maxRecDepth 100000 in
set_option maxHeartbeats 2000000 in
theorem rcv_read (base g : Nat) (r : Rc) (w : World) (ok : Nat → Prop) (most : Int) (h : RcvAt base g r w ok) (hbs : base ≤ w.heap.size) :
    Calls Try.prog 13 #[.pointer (some ⟨g, 0, none⟩), .int .i64 most] w fun e w' => ∃ v, e = .returned v ∧ (Kd.int .u8).R 5 w' w.heap.size (fun _ => True) v (readB r most) ∧ RcvAt base g (readR r most) w' ok ∧ Off ok w w' ∧ Below base w w' := by
  obtain ⟨⟨B, v, D, h1, h2, h5, h6, h7, h8⟩, h9⟩ := h
  obtain ⟨A, c, rfl, hc, hC⟩ := Kd.R_reads h7
  have h8' := h8
  obtain ⟨b1, b2, b3, b4, b5, b6, b7⟩ := h8'
  have c1 := cell_cellsN h1 1 (by simp)
  have c2 := cell_cellsN h1 2 (by simp)
  have f2 := frozen_cellsN h1 2
  dsimp only [List.getElem_toArray, List.getElem_cons_zero, List.getElem_cons_succ] at c1 c2
  have hg : g < w.heap.size := (Array.getElem?_eq_some_iff.1 h1).1
  obtain ⟨n, hn⟩ : ∃ n, readN r most = n := ⟨_, rfl⟩
  have hnl : r.read + n ≤ r.b.length := by rw [← hn]; unfold readN; omega
  have e1 : IntKind.i64.wrap ((r.b.length : Int) - (r.read : Int)) = (r.b.length : Int) - (r.read : Int) := i64_of (by omega)
  have e2 : IntKind.i64.wrap ((r.read : Int) + (n : Int)) = (r.read : Int) + (n : Int) := i64_of (by omega)
  have q1 : (if (r.b.length : Int) - (r.read : Int) < (if most < 0 then 0 else most) then (r.b.length : Int) - (r.read : Int) else (if most < 0 then 0 else most)) = (n : Int) := by
    rw [← hn]; unfold readN; split <;> split <;> omega
  obtain ⟨A', hcut, hCt⟩ := mid_cut A c r.b r.read n hnl hc
  have hCt := hCt w hC
  have hlen : ((r.b.drop r.read).take n).length = n := by rw [List.length_take, List.length_drop]; omega
  have H1 := Lib.hid h1
  have H5 := Lib.hid h5
  have H6 := Lib.hid h6
  have H7 := Lib.hid h7
  have H8 := Lib.hid h8
  have H9 := Lib.hid h9
  have HN := Lib.hid hn
  have HCT := Lib.hid hCt
  have HL := Lib.hid hlen
  clear h1 h5 h6 h7 h8 h9 hC b1 b6 hn hCt hlen
  go_enter Try.func13, Try.ntmps13
  go_wp2
  go_region
  obtain ⟨V, hV⟩ : ∃ V, w.drew = V := ⟨_, rfl⟩
  have c1v : V.cell? ⟨g, 1, none⟩ = some (.slice A r.b.length c) := by rw [← hV]; exact c1
  have c2v : V.cell? ⟨g, 2, none⟩ = some (.int .i64 r.read) := by rw [← hV]; exact c2
  have HV := Lib.hid hV
  rw [hV]
  obtain ⟨mx, hmx⟩ : ∃ mx, (if most < 0 then 0 else most) = mx := ⟨_, rfl⟩
  rw [hmx]
  clear hV c1 c2 f2 q1 hmx
  have K := Lib.hid (show ∀ m cc : Nat, m = n → n ≤ cc → Calls Try.prog 28 #[.slice A' m cc] V.drew fun e w' => ∃ v0_ : Value, e = .returned (v0_) ∧ Kd.R (Kd.int .u8) 5 w' V.drew.heap.size (fun _ => True) v0_ ((r.b.drop r.read).take n) ∧ Below V.drew.heap.size V.drew w' from fun m cc hm hcc => clone_n A' m cc _ _ (by rw [hm, HL.out]) (by rw [HL.out]; exact Kd.C_below HCT.out (by rw [← HV.out]; exact ⟨rfl, rfl, rfl, Nat.le_refl _, fun _ _ => rfl⟩)) (by omega) (by omega))
  go_wp2
  go_still_tail 15, (by kernel_rfl)
  change wpList _ _ _ _ _ V.drew
  obtain ⟨U, hU⟩ : ∃ U, V.drew = U := ⟨_, rfl⟩
  have kU : Below w.heap.size w U := by rw [← hU, ← HV.out]; exact ⟨rfl, rfl, rfl, Nat.le_refl _, fun _ _ => rfl⟩
  have sU : U.heap.size = w.heap.size := by rw [← hU, ← HV.out]; rfl
  rw [hU] at K
  rw [hU]
  have KU := Lib.hid kU
  have SU := Lib.hid sU
  clear hU kU sU c1v c2v hcut
  go_wp2_with (go_at_call 28; refine (K.out n (c - r.read) rfl (by omega)).mono ?_; rintro e1 w1 ⟨v1, rfl, hR1, hb1⟩; have HR1 := Lib.hid hR1; have HB1 := Lib.hid (KU.out.trans (by rw [SU.out] at hb1; exact hb1)); have h1g := (HB1.out.block g hg).trans H1.out; have c2w := cell_cellsN h1g 2 (by simp); have f2w := frozen_cellsN h1g 2; dsimp only [List.getElem_toArray, List.getElem_cons_zero, List.getElem_cons_succ] at c2w; have H1G := Lib.hid h1g; clear hR1 hb1 h1g)
  go_ret
  have hd := read_done (most := most) H1.out h2 H5.out H6.out H7.out H8.out H9.out HB1.out
  rw [HN.out, Int.natCast_add] at hd
  refine ⟨v1, rfl, ?_, hd, (Off.below HB1.out).trans (Off.set w1 (p := ⟨g, 2, none⟩) h2.1 _), (HB1.out.mono hbs).setCell (p := ⟨g, 2, none⟩) h2.2.2.1 _⟩
  have h := HR1.out
  rw [SU.out] at h
  unfold readB
  rw [HN.out]
  exact Kd.R_set h H1G.out rcv_E 2 _
end Go.Proofs.Ytgkcncdanhkkoaa.Fw
