/-
  The stream's receiver: Hear, where a part is taken. Conditions: as in the text that it imports.
-/
import Derived.Test.YtgkcncdanhkkoaaFh
namespace Go.Proofs.Ytgkcncdanhkkoaa.Fw
open Go.RowKit Go.Maps Go.Proofs.Ytgkcncdanhkkoaa.Sp Go.Proofs.YtgkcncdanhkkoaaW.PrintWords Go.Proofs.YtgkcncdanhkkoaaW.PrintLast Go.Proofs.YtgkcncdanhkkoaaW.PrintMore
set_option linter.unusedVariables false
set_option linter.unusedSimpArgs false
theorem cell_of_C {k : IntKind} {w : World} {A : Option Addr} {n : Nat} {xs : List Int} (h : (Kd.int k).C w A n xs) (i : Nat) (h1 : i < xs.length) (hn : n = xs.length) : ∃ ad, A = some ad ∧ w.cell? (ad.add i) = some (.int k xs[i]) := by
  obtain ⟨ad, e, hx⟩ := Kd.at_int h (i : Int) (by omega) (by omega)
  have rx : rd xs (i : Int) = xs[i] := by simp [rd, h1]
  rw [rx, Int.toNat_natCast] at hx
  exact ⟨ad, e, hx⟩
theorem zeroU8 (w : World) : (zeroValue 5).run Try.prog w = .ok (.int .u8 0) w := by kernel_rfl
theorem C_map {k : IntKind} {w w1 : World} {A : Option Addr} {n : Nat} {xs : List Int} {B : Nat} (h : (Kd.int k).C w A n xs) (hB : ∃ es c, w.heap[B]? = some (.map es c)) (hg : w.grownBy w1 (some B)) : (Kd.int k).C w1 A n xs := by
  obtain ⟨es, c, hB⟩ := hB
  refine ⟨h.1, h.2.1, fun hn => ?_⟩
  obtain ⟨ad, e, hc⟩ := h.2.2 hn
  refine ⟨ad, e, fun j p hj => ?_⟩
  obtain ⟨cs, hs, hr, hcell⟩ := hc j p hj
  refine ⟨cs, hs, hr, fun i v hv => ?_⟩
  have hcl := hcell i v hv
  refine (World.cell?_of_block (w := w) (hg.block _ (World.block_lt_of_cell? _ _ hcl) (fun e => ?_))).trans hcl
  injection e with e
  unfold World.cell? at hcl
  rw [e, hB] at hcl
  simp at hcl
def filled (r : Rc) (off : Nat) (l : List Int) (i : Nat) : Rc := { r with n := r.n + i, G := fillG r.G off (l.take i) }
theorem R_map {α : Type} {d : Kd α} {e : Nat} {w w1 : World} {base : Nat} {ok : Nat → Prop} {v : Value} {xs : List α} {B : Nat} (h : d.R e w base ok v xs) (hB : ∃ es c, w.heap[B]? = some (.map es c)) (hg : w.grownBy w1 (some B)) : d.R e w1 base ok v xs := by
  obtain ⟨es, c, hB⟩ := hB
  exact Kd.R_mono (Kd.R_step (Kd.R_bound h) (fun k hk hlt => hg.block k hlt (fun e => by
    injection e with e
    obtain ⟨_, _, _, q, _, cells, hc⟩ := hk
    rw [e, hB] at hc
    cases hc))) (fun k hk => hk.1)
theorem half_put {base g : Nat} {r : Rc} {w w1 : World} {ok : Nat → Prop} {B : Nat} {v : Value} {D : DataW Unit} (h1 : w.heap[g]? = some (.cells #[.int .i64 r.win, v, .int .i64 r.read, .map (some B)] 64 (0, 0))) (h2 : ok g ∧ ok B ∧ base ≤ g ∧ base ≤ B)
    (hB : ∃ es c, w.heap[B]? = some (.map es c)) (h6 : Bey D r.b.length r.G) (h7 : (Kd.int .u8).R 5 w base ok v r.b) (h8 : r.half) (j : Nat) (c : Int) (hj : r.b.length ≤ j) (hj2 : j < 1048576) (hc : 0 ≤ c ∧ c ≤ 255) (hn : r.n + 1 ≤ 1000000000)
    (hown : w1.ownsMap Try.prog 3 (plainElem Try.prog 5) B (r.n + 1) (D.put (key j) (.lit (.int .u8 c)))) (hg : w.grownBy w1 (some B)) : RcvHalf base g { r with n := r.n + 1, G := upd r.G j c } w1 ok := by
  have hgl : g < w.heap.size := (Array.getElem?_eq_some_iff.1 h1).1
  have hne : some g ≠ some B := fun e => by
    injection e with e
    obtain ⟨es, cl, hb⟩ := hB
    rw [e, hb] at h1
    cases h1
  obtain ⟨b1, b2, b3, b4, b5, b6, b7⟩ := h8
  refine ⟨B, v, _, (hg.block g hgl hne).trans h1, h2, hown, bey_put h6 j c (by omega), R_map h7 hB hg, fun i hi => ?_, b2, b3, b4, b5, fun i d hd => ?_, hn⟩
  · show upd r.G j c i = _
    unfold upd
    rw [if_neg (by have : i < r.b.length := hi; omega)]
    exact b1 i hi
  · have hd' : upd r.G j c i = some d := hd
    unfold upd at hd'
    by_cases hi : i = j
    · rw [if_pos hi] at hd'
      injection hd' with hd'
      subst hd'
      exact ⟨hc, by omega⟩
    · rw [if_neg hi] at hd'
      exact b6 i d hd'
theorem half_more {base g : Nat} {r : Rc} {w : World} {ok : Nat → Prop} (h : RcvHalf base g r w ok) {n : Nat} (h1 : r.n ≤ n) (h2 : n ≤ 1000000000) : RcvHalf base g { r with n := n } w ok := by
  obtain ⟨B, v, D, k1, k2, ⟨es, cl, m1, m2, m3, m4⟩, k4, k5, b1, b2, b3, b4, b5, b6, b7⟩ := h
  exact ⟨B, v, D, k1, k2, ⟨es, cl, m1, m2, Nat.le_trans m3 h1, m4⟩, k4, k5, b1, b2, b3, b4, b5, b6, h2⟩
theorem filled_skip {base g : Nat} {r : Rc} {w : World} {ok : Nat → Prop} {off : Nat} {l : List Int} {i : Nat} (h : RcvHalf base g (filled r off l i) w ok) (hn : r.n + (i + 1) ≤ 1000000000) {c : Int} (hc : r.G (off + i) = some c) : RcvHalf base g (filled r off l (i + 1)) w ok := by
  have h2 := half_more h (n := r.n + (i + 1)) (by show r.n + i ≤ _; omega) hn
  unfold filled at h2 ⊢
  rw [fill_some hc]
  exact h2
theorem filled_zero (r : Rc) (off : Nat) (l : List Int) : filled r off l 0 = r := by
  unfold filled
  rw [List.take_zero, fill_nil]
  rfl
theorem R_ne_map {α : Type} {d : Kd α} {e : Nat} {w : World} {base : Nat} {ok : Nat → Prop} {v : Value} {xs : List α} {B : Nat} (h : d.R e w base ok v xs) (hB : ∃ es c, w.heap[B]? = some (.map es c)) : some B ≠ v.ownBlock := fun e => by
  obtain ⟨es, cl, hB⟩ := hB
  obtain ⟨_, _, _, q, _, cells, hc⟩ := (Kd.R_bound h).1 B e.symm
  rw [hB] at hc
  cases hc
/-- One byte more is without a gap. -/
theorem half_pull {base g : Nat} {r : Rc} {w w1 w5 : World} {ok : Nat → Prop} {B : Nat} {v v5 : Value} {D : DataW Unit} {c : Int} (h1 : w.heap[g]? = some (.cells #[.int .i64 r.win, v, .int .i64 r.read, .map (some B)] 64 (0, 0))) (h2 : ok g ∧ ok B ∧ base ≤ g ∧ base ≤ B)
    (hB : ∃ es c, w.heap[B]? = some (.map es c)) (h6 : Bey D r.b.length r.G) (h7 : (Kd.int .u8).R 5 w base ok v r.b) (h8 : r.half) (hc : r.G r.b.length = some c)
    (hown : w1.ownsMap Try.prog 3 (plainElem Try.prog 5) B r.n (D.del (key r.b.length))) (ht : w.grownBy w1 (some B)) (ho : (Kd.int .u8).R 5 w5 base ok v5 (r.b ++ [c])) (hg : w1.grownBy w5 v.ownBlock) :
    RcvHalf base g { r with b := r.b ++ [c] } (w5.setCell ⟨g, 1, none⟩ v5) ok := by
  have hgl : g < w.heap.size := (Array.getElem?_eq_some_iff.1 h1).1
  have hne : some g ≠ some B := fun e => by
    injection e with e
    obtain ⟨es, cl, hb⟩ := hB
    rw [e, hb] at h1
    cases h1
  have hnv : some g ≠ v.ownBlock := Kd.R_ne h7 h1 (by decide)
  have hg5 : w5.heap[g]? = some (.cells #[.int .i64 r.win, v, .int .i64 r.read, .map (some B)] 64 (0, 0)) := (hg.block g (Nat.lt_of_lt_of_le hgl ht.size) hnv).trans ((ht.block g hgl hne).trans h1)
  obtain ⟨b1, b2, b3, b4, b5, b6, b7⟩ := h8
  have hj := b6 _ _ hc
  refine ⟨B, v5, D.del (key r.b.length), set_cellsN 1 hg5 rfl, h2, ?_, ?_, ?_, ⟨fun i hi => ?_, ?_, ?_, b4, b5, b6, b7⟩⟩
  · have hBl : B < w.heap.size := by obtain ⟨es, cl, hb⟩ := hB; exact (Array.getElem?_eq_some_iff.1 hb).1
    exact map_move hown ((Below.heap_setCell _ _ _ _ (show B ≠ g from fun e => hne (by rw [e]))).trans (hg.block B (Nat.lt_of_lt_of_le hBl ht.size) (R_ne_map h7 hB)))
  · show Bey _ (r.b ++ [c]).length r.G
    rw [List.length_append, List.length_singleton]
    exact bey_del h6
  · exact Kd.R_set ho hg5 (fun q hq => by
      have h : (Kd.int .u8).E = [] := rfl
      rw [h, List.mem_singleton] at hq
      rw [hq]
      decide) 1 _
  · show r.G i = (r.b ++ [c])[i]?
    have hi' : i < (r.b ++ [c]).length := hi
    rw [List.length_append, List.length_singleton] at hi'
    by_cases h : i < r.b.length
    · rw [List.getElem?_append_left h]
      exact b1 i h
    · have : i = r.b.length := by omega
      subst this
      rw [hc, List.getElem?_append_right (Nat.le_refl _), Nat.sub_self]
      rfl
  · show r.read ≤ (r.b ++ [c]).length
    rw [List.length_append]
    omega
  · show (r.b ++ [c]).length ≤ 1048576
    rw [List.length_append, List.length_singleton]
    omega
theorem look_at {w : World} {B n : Nat} {D : DataW Unit} (h : w.ownsMap Try.prog 3 (plainElem Try.prog 5) B n D) (i : Nat) (hi : i < 2000000000) : ∃ c : Int, D.atKey (key i) z8 = .lit (.int .u8 c) ∧ ∀ W : World, W.heap[B]? = w.heap[B]? → (Instr.lookup 62 (.map (some B)) (.int .i64 i) true).run Try.prog W = .ok (.tuple #[.int .u8 c, .bool (Maps.has D (key i))]) W := by
  obtain ⟨v, ps, hrun, hv⟩ := h.look_ok lawI Try.underlying62 (zeroU8 w) (plainElem_int (H := Unit) Try.underlying5 (a := 0) (by decide)) (key_of hi)
  obtain ⟨c, rfl, hc, _⟩ := plainElem_int_inv Try.underlying5 hv
  have hc' := congrArg Prod.fst hc
  refine ⟨c, hc', fun W hW => ?_⟩
  obtain ⟨v, ps, hrun, hv⟩ := (map_move h hW).look_ok lawI Try.underlying62 (zeroU8 W) (plainElem_int (H := Unit) Try.underlying5 (a := 0) (by decide)) (key_of hi)
  obtain ⟨d, rfl, hd, _⟩ := plainElem_int_inv Try.underlying5 hv
  have hd' := congrArg Prod.fst hd
  dsimp only at hc' hd'
  rw [hc'] at hd'
  injection hd' with e
  injection e with _ e
  subst e
  exact hrun
set_option maxRecDepth 100000 in
set_option maxHeartbeats 2000000 in
theorem rcv_hear_yes (base g : Nat) (r : Rc) (w : World) (ok : Nat → Prop) (off : Nat) (A : Option Addr) (c : Nat) (l : List Int) (h : RcvAt base g r w ok) (hfr : ∀ k, w.heap.size ≤ k → ok k) (hbs : base ≤ w.heap.size)
    (hr : Kd.C (Kd.int .u8) w A l.length l) (hc : l.length ≤ c) (hl : ∀ b ∈ l, 0 ≤ b ∧ b ≤ 255) (hn : r.n + 500 ≤ 1000000000) (hb : hearB r off l.length = false) :
    Calls Try.prog 10 #[.pointer (some ⟨g, 0, none⟩), .agg #[.int .i64 off, .slice A l.length c]] w fun e w' => e = .returned (.bool true) ∧ (∃ b', RcvAt base g { r with b := b', n := r.n + l.length, G := fillG r.G off l } w' ok) ∧ Off ok w w' ∧ Below base w w' := by
  obtain ⟨⟨B, v, D, h1, h2, h5, h6, h7, h8⟩, h9⟩ := h
  have h8' := h8
  obtain ⟨b1, b2, b3, b4, b5, b6, b7⟩ := h8'
  have hg : g < w.heap.size := (Array.getElem?_eq_some_iff.1 h1).1
  obtain ⟨W, hW⟩ : ∃ W, w.alloc (.cells #[.int .i64 off, .slice A l.length c] 29) = W := ⟨_, rfl⟩
  have hbW : Below w.heap.size w W := by rw [← hW]; exact (Below.refl _ _).alloc (Nat.le_refl _) _
  have h1W := (hbW.block g hg).trans h1
  have hE : W.heap[w.heap.size]? = some (.cells #[.int .i64 off, .slice A l.length c] 29 (0, 0)) := by rw [← hW]; exact new_cellsN _ _ _
  have c0 := cell_cellsN h1W 0 (by simp)
  have c2 := cell_cellsN h1W 2 (by simp)
  have d0 := cell_cellsN hE 0 (by simp)
  have d1 := cell_cellsN hE 1 (by simp)
  dsimp only [List.getElem_toArray, List.getElem_cons_zero, List.getElem_cons_succ] at c0 c2 d0 d1
  unfold hearB at hb
  simp only [Bool.or_eq_false_iff] at hb
  obtain ⟨⟨⟨⟨k1, k2⟩, k3⟩, k4⟩, k5⟩ := hb
  have j2 := of_decide_eq_false k2
  have j3 := of_decide_eq_false k3
  have j4 := of_decide_eq_false k4
  have j5 := of_decide_eq_false k5
  have g3 : decide ((l.length : Int) < 1) = false := decide_eq_false (by omega)
  have g4 : decide (500 < (l.length : Int)) = false := decide_eq_false (by omega)
  have e1 : IntKind.i64.wrap ((off : Int) + (l.length : Int)) = (off : Int) + (l.length : Int) := i64_of (by omega)
  have e2 : IntKind.i64.wrap ((r.read : Int) + (r.win : Int)) = (r.read : Int) + (r.win : Int) := i64_of (by omega)
  obtain ⟨T, hT⟩ : ∃ T, min ((r.read : Int) + r.win) 1048576 = T := ⟨_, rfl⟩
  have q1 : (if 1048576 < (r.read : Int) + (r.win : Int) then 1048576 else (r.read : Int) + (r.win : Int)) = T := by rw [← hT]; split <;> omega
  rw [hT] at k5 j5
  have hend : off + l.length ≤ 1048576 := by omega
  have HE := Lib.hid hE
  have HBW := Lib.hid hbW
  have HW := Lib.hid hW
  have HR := Lib.hid (Kd.C_below hr hbW)
  have HL := Lib.hid hl
  have HFR := Lib.hid hfr
  have HG := Lib.hid (show RcvHalf base g r W ok from RcvHalf.step ⟨B, v, D, h1, h2, h5, h6, h7, h8⟩ (fun k _ hk => hbW.block k hk))
  have H9 := Lib.hid h9
  have HB6 := Lib.hid b6
  clear h1 h2 h5 h6 h7 h8 h9 b1 b6 h1W hE hbW hr hl hfr hT j5
  go_enter Try.func10, Try.ntmps10
  go_wp2
  go_quiet (fail)
  go_wp2
  clear hW c0 c2 d0 d1
  go_loopw [54] (fun v54 wr => ∃ i : Nat, v54 = .int .i64 i ∧ i ≤ l.length ∧ Hid (RcvHalf base g (filled r off l i) wr ok) ∧ Hid (Kd.C (Kd.int .u8) wr A l.length l) ∧ Hid (wr.heap[w.heap.size]? = some (.cells #[.int .i64 off, .slice A l.length c] 29 (0, 0))) ∧ Hid (Off ok w wr) ∧ Hid (Below base w wr)) (fun v54 _ => l.length - (intOf v54).toNat)
  case atStart =>
    have hd : Below w.heap.size w (W.drewN nq) := below_drN HBW.out nq
    exact ⟨0, rfl, Nat.zero_le _, Lib.hid (by rw [filled_zero]; exact RcvHalf.step HG.out (fun k _ _ => rfl)), Lib.hid (Kd.C_below HR.out ⟨rfl, rfl, rfl, Nat.le_refl _, fun _ _ => rfl⟩), Lib.hid HE.out, Lib.hid (Off.below hd), Lib.hid (hd.mono hbs)⟩
  case round =>
    obtain ⟨i, rfl, hi, hG, hC, hE, hO, hB⟩ := hrel
    by_cases hlt : i < l.length
    · have b0 : decide ((i : Int) < (l.length : Int)) = true := decide_eq_true (by omega)
      have b1 : (i : Int) < (l.length : Int) := by omega
      obtain ⟨ad, rfl, hcell⟩ := cell_of_C hC.out i hlt rfl
      obtain ⟨B', v', D', h1, h2, h5, h6, h7, h8⟩ := hG.out
      obtain ⟨Av, cv, hv, hcv, hCv⟩ := Kd.R_reads h7
      subst hv
      have c1 : wr.cell? ⟨g, 1, none⟩ = some (.slice Av r.b.length cv) := cell_cellsN h1 1 (by simp)
      have c3 : wr.cell? ⟨g, 3, none⟩ = some (.map (some B')) := cell_cellsN h1 3 (by simp)
      have d0 : wr.cell? ⟨w.heap.size, 0, none⟩ = some (.int .i64 off) := cell_cellsN hE.out 0 (by simp)
      have e3 : IntKind.i64.wrap ((off : Int) + (i : Int)) = (off : Int) + (i : Int) := i64_of (by omega)
      have hkey : keyOf Try.prog 3 (.int .i64 ((off : Int) + (i : Int))) = some (key (off + i)) := by
        have h := key_of (i := off + i) (by omega)
        rwa [Int.natCast_add] at h
      have hlook : ∃ cx : Int, (Instr.lookup 62 (.map (some B')) (.int .i64 ((off : Int) + (i : Int))) true).run Try.prog wr = .ok (.tuple #[.int .u8 cx, .bool (Maps.has D' (key (off + i)))]) wr := by
        obtain ⟨v, ps, hrun, hv⟩ := h5.look_ok lawI Try.underlying62 (zeroU8 wr) (plainElem_int Try.underlying5 (by decide)) hkey
        obtain ⟨c, rfl, _, _⟩ := plainElem_int_inv Try.underlying5 hv
        exact ⟨c, hrun⟩
      obtain ⟨cx, hlook⟩ := hlook
      have hB6 := h6.2 (off + i)
      by_cases hge : off + i < r.b.length
      · have g5 : decide ((r.b.length : Int) ≤ (off : Int) + (i : Int)) = false := decide_eq_false (by omega)
        obtain ⟨hh, hhe⟩ : ∃ hh, Maps.has D' (key (off + i)) = hh := ⟨_, rfl⟩
        rw [hhe] at hlook
        have HS := Lib.hid (filled_skip hG.out (by omega) (show r.G (off + i) = some (r.b[off + i]'hge) from by
          have := h8.1 (off + i) hge
          rw [show (filled r off l i).G (off + i) = r.G (off + i) from fill_at] at this
          rw [this]
          exact List.getElem?_eq_getElem hge))
        clear h1 h2 h5 h6 h7 h8 hB6 hhe hCv hkey
        go_wp2
        go_round
        case rel => exact ⟨i + 1, by go_num, by omega, HS, hC, hE, hO, hB⟩
        case measure => simp [intOf]; omega
      · have g5 : decide ((r.b.length : Int) ≤ (off : Int) + (i : Int)) = true := decide_eq_true (by omega)
        have hB7 := hB6 (by show r.b.length ≤ _; omega) (by omega)
        rw [show (filled r off l i).G (off + i) = r.G (off + i) from fill_at] at hB7
        cases hGi : r.G (off + i) with
        | some cc =>
          rw [(hB7.2 cc hGi).1] at hlook
          have HS := Lib.hid (filled_skip hG.out (by omega) hGi)
          clear h1 h2 h5 h6 h7 h8 hB6 hB7 hCv hkey hGi
          go_wp2
          go_round
          case rel => exact ⟨i + 1, by go_num, by omega, HS, hC, hE, hO, hB⟩
          case measure => simp [intOf]; omega
        | none =>
          rw [hB7.1 hGi] at hlook
          have hwf : (Lit.int .u8 l[i]).wf = true := by
            have := HL.out l[i] (List.getElem_mem hlt)
            simp [Lit.wf, IntKind.min, IntKind.max, IntKind.signed, IntKind.bits]
            omega
          have hBm : ∃ es c, wr.heap[B']? = some (.map es c) := by obtain ⟨es, cl, hb, _⟩ := h5; exact ⟨es, cl, hb⟩
          have HP := Lib.hid (fun (w1 : World) (hown : w1.ownsMap Try.prog 3 (plainElem Try.prog 5) B' (r.n + i + 1) (D'.put (key (off + i)) (.lit (.int .u8 l[i])))) (hg : wr.grownBy w1 (some B')) => half_put (r := filled r off l i) h1 h2 hBm h6 h7 h8 (off + i) l[i] (show r.b.length ≤ off + i by omega) (by omega) (HL.out l[i] (List.getElem_mem hlt)) (show r.n + i + 1 ≤ 1000000000 by omega) hown hg)
          have HBm := Lib.hid hBm
          have H2 := Lib.hid h2
          have H5 := Lib.hid h5
          have HK := Lib.hid hkey
          have HF := Lib.hid hwf
          have HI := Lib.hid hGi
          clear h1 h2 h5 h6 h7 h8 hB6 hB7 hCv hkey hGi hwf hBm
          go_wp2_with (at_mapUpdate; refine wpList_mapUpdate_own _ rfl _ _ _ 62 rfl 3 5 lawI Try.underlying62 _ B' (r.n + i) _ rfl H5.out (by unfold maxLen; omega) _ _ _ rfl rfl HK.out _ [] (plainElem_int Try.underlying5 HF.out) ?_; intro w1 hown1 hgrow1)
          go_round
          case rel =>
            have hEl : w.heap.size < wr.heap.size := (Array.getElem?_eq_some_iff.1 hE.out).1
            have hne : some w.heap.size ≠ some B' := fun e => by
              injection e with e
              obtain ⟨es, cl, hb⟩ := HBm.out
              have := hE.out
              rw [e, hb] at this
              cases this
            refine ⟨i + 1, by go_num, by omega, Lib.hid ?_, Lib.hid (C_map hC.out HBm.out hgrow1), Lib.hid ((hgrow1.block _ hEl hne).trans hE.out), Lib.hid (hO.out.trans (Off.grown hgrow1 (fun k hk => by injection hk with hk; exact hk ▸ H2.out.2.1))), Lib.hid (hB.out.grown hgrow1 (by omega) (fun k hk => by injection hk with hk; exact hk ▸ H2.out.2.2.2))⟩
            have h := HP.out w1 hown1 hgrow1
            unfold filled at h ⊢
            rw [fill_none hlt HI.out]
            exact h
          case measure => simp [intOf]; omega
    · have b0 : decide ((i : Int) < (l.length : Int)) = false := decide_eq_false (by omega)
      have hil : i = l.length := by omega
      subst hil
      obtain ⟨r1, hr1⟩ : ∃ r1, filled r off l l.length = r1 := ⟨_, rfl⟩
      rw [hr1] at hG
      have HR1 := Lib.hid hr1
      clear hr1
      go_wp2
      go_loopg [] (1048576 : Nat) (fun kq wr => ∃ b2 : List Int, Hid (RcvHalf base g { r1 with b := b2 } wr ok) ∧ 1048576 ≤ b2.length + kq ∧ Hid (Off ok w wr) ∧ Hid (Below base w wr))
      case atStart => exact ⟨r1.b, hG, by omega, hO, hB⟩
      case round =>
        obtain ⟨b2, hG2, hk2, hO2, hB2⟩ := hrel
        obtain ⟨B', v', D', h1, h2, h5, h6, h7, h8⟩ := hG2.out
        obtain ⟨Av, cv, hv, hcv, hCv⟩ := Kd.R_reads h7
        subst hv
        have c1 : wr.cell? ⟨g, 1, none⟩ = some (.slice Av b2.length cv) := cell_cellsN h1 1 (by simp)
        have c3 : wr.cell? ⟨g, 3, none⟩ = some (.map (some B')) := cell_cellsN h1 3 (by simp)
        have hb2 : b2.length ≤ 1048576 := h8.2.2.1
        have hB7 := h6.2 b2.length (Nat.le_refl _) (by omega)
        obtain ⟨cx, hcx, hl⟩ := look_at h5 b2.length (by omega)
        have hBm : ∃ es c, wr.heap[B']? = some (.map es c) := by obtain ⟨es, cl, hb, _⟩ := h5; exact ⟨es, cl, hb⟩
        have hl := hl wr.drew rfl
        cases hGi : r1.G b2.length with
        | none =>
          rw [hB7.1 hGi] at hl
          have HGI := Lib.hid hGi
          clear h1 h2 h5 h6 h7 h8 hB7 hCv hGi hcx hBm
          go_wp2
          go_region
          go_wp2
          go_ret
          refine ⟨rfl, ⟨b2, ?_⟩, Off.drew hO2.out, hB2.out.drew⟩
          have e1 := HR1.out
          unfold filled at e1
          rw [List.take_length] at e1
          have h := RcvHalf.step (w1 := wr.drew) hG2.out (fun k _ _ => rfl)
          have hn := HGI.out
          rw [← e1] at h hn
          exact ⟨h, hn⟩
        | some cc =>
          have hh := hB7.2 cc hGi
          rw [hh.1] at hl
          have e := hcx.symm.trans hh.2
          injection e with e
          injection e with _ e
          subst e
          have hlt2 : b2.length < 1048576 := (h8.2.2.2.2.2.1 _ _ hGi).2
          have hn2 : r1.n = r.n + l.length := by rw [← HR1.out]; rfl
          have H1 := Lib.hid h1
          have H2 := Lib.hid h2
          have H5 := Lib.hid h5
          have H6 := Lib.hid h6
          have H7 := Lib.hid h7
          have H8 := Lib.hid h8
          have HBm := Lib.hid hBm
          have HGI := Lib.hid hGi
          have HK := Lib.hid (key_of (i := b2.length) (by omega))
          have hgr : g < wr.heap.size := (Array.getElem?_eq_some_iff.1 h1).1
          have hneB : some g ≠ some B' := fun e => by
            injection e with e
            obtain ⟨es, cl, hb⟩ := hBm
            rw [e, hb] at h1
            cases h1
          have hneV := Kd.R_ne h7 h1 (by decide)
          have HNB := Lib.hid hneB
          have HNV := Lib.hid hneV
          clear h1 h2 h5 h6 h7 h8 hB7 hCv hGi hcx hh hBm hneB hneV hn2
          go_wp2
          go_region
          obtain ⟨V, hV⟩ : ∃ V, wr.drew = V := ⟨_, rfl⟩
          have kV : V.heap = wr.heap := by rw [← hV]; rfl
          have c1v : V.cell? ⟨g, 1, none⟩ = some (.slice Av b2.length cv) := (World.cell?_of_block (w := wr) (a := ⟨g, 1, none⟩) (by rw [kV])).trans c1
          have c3v : V.cell? ⟨g, 3, none⟩ = some (.map (some B')) := (World.cell?_of_block (w := wr) (a := ⟨g, 3, none⟩) (by rw [kV])).trans c3
          have HV := Lib.hid hV
          rw [hV]
          clear hV c1 c3 hl kV
          go_wp2
          go_still_tail 9, (by kernel_rfl)
          change wpList _ _ _ _ _ V.drew
          obtain ⟨U, hU⟩ : ∃ U, V.drew = U := ⟨_, rfl⟩
          have kU : U = wr.drew.drew := by rw [← hU, ← HV.out]
          have HU := Lib.hid kU
          have H5u := Lib.hid (show U.ownsMap Try.prog 3 (plainElem Try.prog 5) B' r1.n D' from map_move H5.out (by rw [kU]; rfl))
          rw [hU]
          clear hU kU c1v c3v
          go_wp2_with (first
            | (at_delete; refine wpList_delete_own _ rfl _ _ 62 3 rfl 5 lawI Try.underlying62 _ B' r1.n D' rfl H5u.out _ _ rfl HK.out ?_; intro w1 hown1 hturn1; have HO1 := Lib.hid hown1; have HT1 := Lib.hid (show wr.grownBy w1 (some B') from (by have h := hturn1.grown; rw [HU.out] at h; exact ⟨h.os, h.tape, h.output, h.size, h.block⟩)); have h1g := (HT1.out.block g hgr HNB.out).trans H1.out; have c1w := cell_cellsN h1g 1 (by simp); dsimp only [List.getElem_toArray, List.getElem_cons_zero, List.getElem_cons_succ] at c1w; have H1G := Lib.hid h1g; have HBw := Lib.hid (hB2.out.grown HT1.out (by have := hO2.out.1; omega) (fun k hk => by injection hk with hk; exact hk ▸ H2.out.2.2.2)); have HR7 := Lib.hid (R_map H7.out HBm.out HT1.out); clear hown1 hturn1 h1g)
            | ((with_reducible refine gate_builtin (b := .append) (xs := #[.tmp 118, .tmp 120]) rfl ?_); at_builtin; refine Kd.R_append (Kd.int .u8) (w0 := w) base rfl (.tmp 118) (.tmp 120) 22 5 (.int .u8 0) 1 rfl Try.underlying22 info8 rfl (by decide) (by omega) (.slice Av b2.length cv) b2 cx [.int .u8 cx] ok (fun _ => False) rfl rfl rfl (fun _ hk => hk.elim) (fun k hk => HFR.out k (by have := HT1.out.size; have := hO2.out.1; omega)) HR7.out HBw.out (by have := HT1.out.size; have := hO2.out.1; omega) (by omega) ?_; intro v5 w5 ho5 hb5 hg5 hat5; obtain ⟨A5, cp5, hv5, _, _⟩ := Kd.R_reads ho5; obtain ⟨m5, hm5⟩ : ∃ m, (b2 ++ [cx]).length = m := ⟨_, rfl⟩; rw [hm5] at hv5; subst hv5; have HM5 := Lib.hid hm5; have HO5 := Lib.hid ho5; have HG5 := Lib.hid hg5; have HB5 := Lib.hid hb5; have h5g := (hg5.block g (Nat.lt_of_lt_of_le hgr HT1.out.size) HNV.out).trans H1G.out; have c5 := cell_cellsN h5g 1 (by simp); have f5 := frozen_cellsN h5g 1; dsimp only [List.getElem_toArray, List.getElem_cons_zero, List.getElem_cons_succ] at c5; clear ho5 hg5 hb5 hat5 h5g hm5))
          go_roundg (gk - 1)
          case measure => omega
          case rel =>
            refine ⟨b2 ++ [cx], Lib.hid (half_pull (r := { r1 with b := b2 }) H1.out H2.out HBm.out H6.out H7.out H8.out HGI.out HO1.out HT1.out HO5.out HG5.out), by rw [List.length_append, List.length_singleton]; omega, Lib.hid ?_, Lib.hid (HB5.out.setCell (p := ⟨g, 1, none⟩) H2.out.2.2.1 _)⟩
            exact (hO2.out.trans (Off.grown HT1.out (fun k hk => by injection hk with hk; exact hk ▸ H2.out.2.1))).trans ((Off.grown HG5.out (fun k hk => HR7.out.1 k hk)).trans (Off.set w5 (p := ⟨g, 1, none⟩) H2.out.1 _))
end Go.Proofs.Ytgkcncdanhkkoaa.Fw
