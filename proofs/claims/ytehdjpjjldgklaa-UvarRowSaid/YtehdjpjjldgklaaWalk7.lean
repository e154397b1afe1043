/-
  UvarEach: the walk of the law: whatever the bytes, the numbers, and where one stops: it returns true, and nothing that lay has turned.
-/
import Derived.Test.YtehdjpjjldgklaaSeqEach
import Derived.Test.YtehdjpjjldgklaaWFoot
import Derived.Deep.Cut
import Derived.Deep.RegionLaw
import Derived.Deep.AppendLies
namespace Go.Proofs.Ytehdjpjjldgklaa.Uv
open Go.RowKit Go.Shelf Go.Proofs.Ytehdjpjjldgklaa.H Go.Proofs.YtehdjpjjldgklaaW.PrintWords Go.Proofs.YtehdjpjjldgklaaW.PrintLast Go.Proofs.YtehdjpjjldgklaaW.PrintMore
attribute [local go_sem] Oper.semAt_some

theorem awake_yes : Ev (fun k => embrasurelaw01_awake.f k) true := by
  unfold embrasurelaw01_awake.f
  refine Ev.bind (put_yes 300 (by omega) (by omega)) (Ev.bind (get_yes [128] (by decide)) (Ev.bind (get_yes [128, 0] (by decide)) ?_))
  rw [show putI 300 = [172, 2] by decide, show getI [128] = (0, 0, 2) by decide, show getI [128, 0] = (0, 0, 3) by decide]
  refine Ev_if (by decide) (Ev_if (by decide) (Ev_if (by decide) (Ev_if (by decide) (Ev_if (by decide) (Ev_if (by decide) (Ev_if (by decide) (Ev.bind (len_yes 300 (by omega) (by omega)) ?_)))))))
  rw [show lenI 300 = 2 by decide]
  exact Ev.now _

theorem wp_calm {P : Program} {c : Code} {Q : Exit → Act → World → Prop} {a : Act} {w : World} (h : c.wp P (Exit.then (fun a w => Q .normal a w) (fun _ _ _ => False)) a w) : c.wp P Q a w :=
  wp_mono h (by
    intro e a w h
    cases e <;> first | exact h | exact h.elim)
def fil (vs : List Int) : List Int := vs.filter (fun v => decide (v ≤ 9223372036854775807))
theorem flat_fil : ∀ vs : List Int, flat (fil vs) = flat vs
  | [] => rfl
  | v :: vs => by
    rw [flat_cons, fil, List.filter_cons]
    by_cases h : v ≤ 9223372036854775807
    · rw [if_pos (by simpa using h), flat_cons]; congr 1; exact flat_fil vs
    · rw [if_neg (by simpa using h), putI_none v h, List.nil_append]; exact flat_fil vs
theorem ref16 (k : Nat) (A0 : Option Addr) (c0 : Nat) (l0 : List Int) (T : List (Int × Int)) (w : World) (hr0 : Kd.C (Kd.int .u8) w A0 l0.length l0) (hc0 : l0.length ≤ c0) (h : embrasureref01_Each.f k l0 = some (T.map Prod.snd, T.map Prod.fst)) :
    Calls Try.prog 16 #[.slice A0 l0.length c0] w fun e w' => ∃ A c A' c', e = .returned (.tuple #[.slice A T.length c, .slice A' T.length c']) ∧ Kd.R (Kd.int .u64) 22 w' w.heap.size (fun _ => True) (.slice A T.length c) (T.map Prod.snd) ∧ Kd.R (Kd.int .i64) 3 w' w.heap.size (fun _ => True) (.slice A' T.length c') (T.map Prod.fst) ∧ Below w.heap.size w w' :=
  (embrasureref01_Each.calls k A0 c0 l0 _ _ w hr0 hc0 h).mono fun e w' ⟨va, vb, he, ha, hb, hw⟩ => by
    obtain ⟨A, c, rfl, _, _⟩ := Kd.R_reads ha
    obtain ⟨A', c', rfl, _, _⟩ := Kd.R_reads hb
    rw [List.length_map] at ha hb
    simp only [List.length_map] at he
    exact ⟨A, c, A', c', he, ha, hb, hw⟩
set_option maxRecDepth 100000 in
set_option maxHeartbeats 4000000 in
theorem law7_in (A0 : Option Addr) (c0 : Nat) (l0 : List Int) (A1 : Option Addr) (c1 : Nat) (l1 : List Int) (stop : Int) (w : World) (hr0 : Kd.C (Kd.int .u8) w A0 l0.length l0) (hc0 : l0.length ≤ c0) (hb0 : ∀ x ∈ l0, 0 ≤ x ∧ x ≤ 255)
    (hr1 : Kd.C (Kd.int .u64) w A1 l1.length l1) (_hc1 : l1.length ≤ c1) (hb1 : ∀ x ∈ l1, 0 ≤ x ∧ x ≤ 18446744073709551615) (hs0 : 0 ≤ stop) (hs1 : stop ≤ 255) (h300 : l0.length ≤ 300) (h60 : l1.length ≤ 60) :
    Calls Try.prog 7 #[.slice A0 l0.length c0, .slice A1 l1.length c1, .int .u8 stop] w fun e w' => e = .returned (.bool true) ∧ Below w.heap.size w w' := by
  obtain ⟨ka, hka⟩ := awake_yes.rounds
  obtain ⟨kr, hkr⟩ := (reach_yes l0 hb0 (by omega)).rounds
  obtain ⟨T, hT⟩ : ∃ T, eachL l0 = T := ⟨_, rfl⟩
  have hTl : T.length ≤ 300 := by rw [← hT]; have := eachL_len l0 hb0; omega
  rw [hT] at hkr
  have HT := Lib.hid hT
  clear hT
  have Haw := Lib.hid hka
  have Hkr := Lib.hid hkr
  have Hr0 := Lib.hid hr0
  have Hr1 := Lib.hid hr1
  have Hb0 := Lib.hid hb0
  have Hb1 := Lib.hid hb1
  clear hka hkr hr0 hr1 hb0 hb1
  have g1 : decide (300 < (l0.length : Int)) = false := decide_eq_false (by omega)
  have g2 : decide (60 < (l1.length : Int)) = false := decide_eq_false (by omega)
  refine (callsIn_wide (n := 8)).1 ?_
  refine callsIn_of_wp_marks Try.func7 rfl trivial (wpIn_wide.2 ?_) rfl
  simp only [Try.ntmps7, List.size_toArray, List.length_cons, List.length_nil, Nat.reduceAdd, Nat.reduceSub, Array.replicate_succ, Array.replicate_zero, List.push_toArray, List.append_toArray, List.nil_append, List.cons_append]
  go_wp2_with (first | (go_at_call 9; refine (embrasurelaw01_awake.calls _ _ _ Haw.out).mono ?_; rintro e w1 ⟨rfl, hw1⟩; obtain ⟨hc1_, hf1⟩ := bcell hw1; have hz1 := hw1.size; simp only [World.size_alloc] at hz1) | (go_at_call 16; refine (ref16 kr A0 c0 l0 T _ (Kd.C_below Hr0.out (((Below.refl _ w).alloc (Nat.le_refl _) _).alloc (by simp) _ |>.trans (hw1.mono (by simp only [World.size_alloc]; omega)))) hc0 Hkr.out).mono ?_; rintro e w2 ⟨Aa, ca, Ab, cb, rfl, hRa, hRb, hw2⟩) | (go_at_call 17; refine (each_maker A0 l0.length c0 _).mono ?_; rintro e w3 ⟨rfl, rfl⟩))
  obtain ⟨W0, hW0⟩ : ∃ W0, ((((w2.alloc (.cells #[.slice Aa T.length ca] 35)).alloc (.cells #[.slice Ab T.length cb] 36)).alloc (.cells #[.int .i64 0] 3)).alloc (.cells #[.slice A0 l0.length c0] 23)) = W0 := ⟨_, rfl⟩
  rw [hW0]
  have hs4 : W0.heap.size = w2.heap.size + 4 := by rw [← hW0]; simp
  have hz2 := hw2.size
  have B5w : Boxed w2 w.heap.size 5 (.int .u8 stop) := Boxed.below (Boxed.below ((Boxed.new w 5 (.int .u8 stop)).alloc _) (by simpa using hw1)) hw2
  have B6w : Boxed w2 (w.heap.size + 1) 4 (.bool false) := Boxed.below (Boxed.below (by have := Boxed.new (w.alloc (.cells #[.int .u8 stop] 5)) 4 (.bool false); rwa [World.size_alloc] at this) (by simpa using hw1)) hw2
  have hb20 : Below w2.heap.size w2 W0 := by
    rw [← hW0]
    exact ((((Below.refl _ w2).alloc (Nat.le_refl _) _).alloc (by simp) _).alloc (by simp; omega) _).alloc (by simp; omega) _
  have B5 := Boxed.below B5w hb20
  have B6 := Boxed.below B6w hb20
  have B7 : Boxed W0 w2.heap.size 35 (.slice Aa T.length ca) := by
    rw [← hW0]; exact (((Boxed.new w2 _ _).alloc _).alloc _).alloc _
  have B8 : Boxed W0 (w2.heap.size + 1) 36 (.slice Ab T.length cb) := by
    rw [← hW0]; have := Boxed.new (w2.alloc (.cells #[.slice Aa T.length ca] 35)) 36 (.slice Ab T.length cb); rw [World.size_alloc] at this; exact (this.alloc _).alloc _
  have B9 : Boxed W0 (w2.heap.size + 1 + 1) 3 (.int .i64 0) := by
    rw [← hW0]; have := Boxed.new ((w2.alloc (.cells #[.slice Aa T.length ca] 35)).alloc (.cells #[.slice Ab T.length cb] 36)) 3 (.int .i64 0); rw [World.size_alloc, World.size_alloc] at this; exact this.alloc _
  have B10 : Boxed W0 (w2.heap.size + 1 + 1 + 1) 23 (.slice A0 l0.length c0) := by
    rw [← hW0]; have := Boxed.new (((w2.alloc (.cells #[.slice Aa T.length ca] 35)).alloc (.cells #[.slice Ab T.length cb] 36)).alloc (.cells #[.int .i64 0] 3)) 23 (.slice A0 l0.length c0); rw [World.size_alloc, World.size_alloc, World.size_alloc] at this; exact this
  have hbw2 : Below w.heap.size w w2 := (((Below.refl _ w).alloc (Nat.le_refl _) _).alloc (by simp) _).trans ((hw1.mono (by simp only [World.size_alloc]; omega)).trans (hw2.mono (by omega)))
  have hbw : Below w.heap.size w W0 := hbw2.trans (hb20.mono (by omega))
  clear hW0 hc1_ hf1 B5w B6w
  obtain ⟨S, hS⟩ : ∃ S : Nat → Prop, S = fun b => b ≠ w2.heap.size + 1 + 1 ∧ b < W0.heap.size := ⟨_, rfl⟩
  have hSlt : ∀ b, S b → b < W0.heap.size := fun b hb => by rw [hS] at hb; exact hb.2
  have hSn : ¬ S (w2.heap.size + 1 + 1) := fun hb => by rw [hS] at hb; exact hb.1 rfl
  have hSy : ∀ b, b < W0.heap.size → b ≠ w2.heap.size + 1 + 1 → S b := fun b h1 h2 => by rw [hS]; exact ⟨h2, h1⟩
  clear hS
  have hC0 : ∀ W, KeepS S W0 W → Kd.C (Kd.int .u8) W A0 l0.length l0 := fun W hW => Kd.Heap.C (Kd.heap_int _) (fun k hk => (hW.2 k (hSy k (by omega) (by omega))).trans (hbw.block k hk)) Hr0.out
  have hCa : ∀ W, KeepS S W0 W → Kd.C (Kd.int .u64) W Aa T.length (T.map Prod.snd) := fun W hW => by
    have := (Kd.R_reads' (Kd.R_step (w1 := W) (Kd.R_bound hRa) (fun k hk hlt => (hW.2 k (hSy k (by omega) (by omega))).trans (hb20.block k hlt)))).2.2
    rwa [List.length_map] at this
  have hCb : ∀ W, KeepS S W0 W → Kd.C (Kd.int .i64) W Ab T.length (T.map Prod.fst) := fun W hW => by
    have := (Kd.R_reads' (Kd.R_step (w1 := W) (Kd.R_bound hRb) (fun k hk hlt => (hW.2 k (hSy k (by omega) (by omega))).trans (hb20.block k hlt)))).2.2
    rwa [List.length_map] at this
  have seq1 := each_stops 7 (by omega) S (w2.heap.size + 1 + 1 + 1) A0 c0 l0 W0 (hSy _ (by omega) (by omega)) hSlt B10.cell hc0 (by omega) Hb0.out hC0
  rw [HT.out] at seq1
  have HCa := Lib.hid hCa
  have HCb := Lib.hid hCb
  clear hCa hCb hC0 hRa hRb
  refine (wpIn_wide (n := 8)).1 (wpIn_join 0 (fun D W => (∃ j : Nat, Boxed W (w2.heap.size + 1 + 1) 3 (.int .i64 j) ∧ (j = T.length ∨ (j : Int) = stop)) ∧ KeepS S W0 W ∧ Below w.heap.size w W ∧ W0.heap.size ≤ D ∧ W.heap[D]? = some (.deferred (some []))) ?_ ?_ ?_)
  · refine wpIn_rangeFunc_ownF rfl (by omega) (gf := 19) (lb := #[.pointer (some ⟨w2.heap.size + 1 + 1 + 1, 0, none⟩)]) rfl trivial (enters_of Try.func19 (by kernel_rfl) rfl)
      seq1 KeepS.trans (fun W l o o' hl h _ _ => KeepS.put W l o o' (fun hb => by have := hSlt l hb; omega) h) (Below.refl _ _) (fun _ => rfl)
      (fun pre W => (pre <+: T ∧ (stop = 0 ∨ (pre.length : Int) < stop)) ∧ KeepS S W0 W ∧ Boxed W (w2.heap.size + 1 + 1) 3 (.int .i64 pre.length) ∧ Below w.heap.size w W)
      (fun c pre W => (c = .ret ∧ ¬ pre <+: T) ∨ (c = .exit 0 ∧ (pre.length : Int) = stop ∧ KeepS S W0 W ∧ Boxed W (w2.heap.size + 1 + 1) 3 (.int .i64 pre.length) ∧ Below w.heap.size w W))
      ?hI ?hIx ?h0 ?a1 ?assign ?body ?done ?stop
    case assign =>
      intro l x W K hK
      gi_wp2
      exact hK
    case hI =>
      rintro s X Y row ⟨h1, h2, h3, h4⟩ hg hr
      exact ⟨h1, h2.grown hSlt hg (fun r e hb => by have := (hr r e).1; have := hSlt r hb; omega), boxed_own _ _ (fun _ : Unit => _) () X Y row h3 hg (fun r e => (hr r e).2), h4.grown hg (Nat.le_trans hbw.size h2.1) (fun k e => by have := (hr k e).1; omega)⟩
    case hIx =>
      rintro cc s X Y row (h | ⟨h0, h1, h2, h3, h4⟩) hg hr
      · exact .inl h
      · exact .inr ⟨h0, h1, h2.grown hSlt hg (fun r e hb => by have := (hr r e).1; have := hSlt r hb; omega), boxed_own _ _ (fun _ : Unit => _) () X Y row h3 hg (fun r e => (hr r e).2), h4.grown hg (Nat.le_trans hbw.size h2.1) (fun k e => by have := (hr k e).1; omega)⟩
    case h0 => exact ⟨⟨List.nil_prefix, by simp; omega⟩, KeepS.refl _ _, B9, hbw⟩
    case body =>
      rintro l pre ⟨x1, x2⟩ W ⟨⟨hp, hpl⟩, hk, b9, hbl⟩ _
      have Ql : Hid (pre.length < 200000000000000) := ‹_›
      clear ‹pre.length < 200000000000000›
      have Hp := Lib.hid hp
      clear hp
      have Hk := Lib.hid hk
      have HSn := Lib.hid hSn
      have b5 := hk.boxed (hSy _ (by omega) (by omega)) B5
      have b6 := hk.boxed (hSy _ (by omega) (by omega)) B6
      have b7 := hk.boxed (hSy _ (by omega) (by omega)) B7
      have b8 := hk.boxed (hSy _ (by omega) (by omega)) B8
      clear hk hSn hSy hSlt seq1 B5 B6 B7 B8 B9 B10
      obtain ⟨j, hj⟩ : ∃ j, pre.length = j := ⟨_, rfl⟩
      rw [hj] at hpl b9
      have Hj := Lib.hid hj
      clear hj
      have c5 := b5.cell
      have f6 := b6.frozen
      have c6 := b6.cell
      have c7 := b7.cell
      have c8 := b8.cell
      have c9 := b9.cell
      have f9 := b9.frozen
      clear b5 b6 b7 b8
      by_cases hjc : j < T.length
      · obtain ⟨ada, ea, hxa⟩ := Kd.at_int (HCa.out W Hk.out) (j : Int) (by omega) (by omega)
        obtain ⟨adb, eb, hxb⟩ := Kd.at_int (HCb.out W Hk.out) (j : Int) (by omega) (by omega)
        have ra : rd (T.map Prod.snd) (j : Int) = T[j].2 := by simp [rd, hjc]
        have rb : rd (T.map Prod.fst) (j : Int) = T[j].1 := by simp [rd, hjc]
        rw [ra, Int.toNat_natCast] at hxa
        rw [rb, Int.toNat_natCast] at hxb
        clear ra rb
        have hsn := snoc_prefix (x1, x2) Hp.out
        rw [Hj.out, List.getElem?_eq_getElem hjc] at hsn
        have Hsn := Lib.hid hsn
        clear hsn
        obtain ⟨t, ht⟩ : ∃ t, T[j] = t := ⟨_, rfl⟩
        rw [ht] at hxa hxb Hsn
        clear ht
        obtain ⟨t1, t2⟩ := t
        have hjg : decide ((T.length : Int) ≤ j) = false := decide_eq_false (by omega)
        by_cases h1 : x1 = t1
        · by_cases h2 : x2 = t2
          · have h1b : (x1 != t1) = false := by simpa using h1
            have h2b : (x2 != t2) = false := by simpa using h2
            have Hpx := Lib.hid (Hsn.out.2 (by rw [h1, h2]))
            clear h1 h2
            by_cases h3 : (j : Int) + 1 = stop
            · have h3b : ((j : Int) + 1 == stop) = true := by simpa using h3
              have H3 := Lib.hid h3
              clear h3
              gi_wp2
              refine ⟨KeepsOthers.setCell _ _ _, .inr ⟨rfl, ?_, Hk.out.trans (KeepS.setCell HSn.out _), ?_, hbl.setCell (p := ⟨w2.heap.size + 1 + 1, 0, none⟩) (by show w.heap.size ≤ w2.heap.size + 1 + 1; omega) _⟩⟩
              · rw [List.length_append, Hj.out]; simpa using H3.out
              · rw [List.length_append, Hj.out]; exact b9.set _
            · have h3b : ((j : Int) + 1 == stop) = false := by simpa using h3
              have h3l : stop = 0 ∨ (j : Int) + 1 < stop := by omega
              have H3 := Lib.hid h3l
              clear h3 h3l
              gi_wp2
              refine ⟨KeepsOthers.setCell _ _ _, KeepS.setCell HSn.out _, ⟨Hpx.out, ?_⟩, Hk.out.trans (KeepS.setCell HSn.out _), ?_, hbl.setCell (p := ⟨w2.heap.size + 1 + 1, 0, none⟩) (by show w.heap.size ≤ w2.heap.size + 1 + 1; omega) _⟩
              · rw [List.length_append, Hj.out]; simpa using H3.out
              · rw [List.length_append, Hj.out]; exact b9.set _
          · have h1b : (x1 != t1) = false := by simpa using h1
            have h2b : (x2 != t2) = true := by simpa using h2
            have H2 := Lib.hid h2
            clear h1 h2
            gi_wp2
            exact ⟨KeepsOthers.setCell _ _ _, .inl ⟨rfl, fun h => H2.out (by have := Hsn.out.1 h; simp at this; exact this.2.symm)⟩⟩
        · have h1b : (x1 != t1) = true := by simpa using h1
          have H1 := Lib.hid h1
          clear h1
          gi_wp2
          exact ⟨KeepsOthers.setCell _ _ _, .inl ⟨rfl, fun h => H1.out (by have := Hsn.out.1 h; simp at this; exact this.1.symm)⟩⟩
      · have hjc' : decide ((T.length : Int) ≤ j) = true := decide_eq_true (by omega)
        gi_wp2
        exact ⟨KeepsOthers.setCell _ _ _, .inl ⟨rfl, fun h => by have := (snoc_prefix (x1, x2) Hp.out).1 h; rw [Hj.out, List.getElem?_eq_none (by omega)] at this; cases this⟩⟩
    case done =>
      rintro D xs W hD rfl ⟨⟨hp, hpl⟩, hk, b9, hbl⟩ hK
      exact ⟨.inl rfl, D, rfl, ⟨_, b9, .inl rfl⟩, hk, hbl, hD, hK⟩
    case stop =>
      rintro D jmp pre W hD hS hX hK
      rcases hX with ⟨_, hbad⟩ | ⟨rfl, hp, hk, b9, hbl⟩
      · exact absurd hS hbad
      · gi_wp2
        exact ⟨⟨_, b9, .inr hp⟩, by omega⟩
  · rintro D W ⟨⟨j, b9, hj⟩, hk, hbl, hD, hK⟩
    have b5 := hk.boxed (hSy _ (by omega) (by omega)) B5
    have b6 := hk.boxed (hSy _ (by omega) (by omega)) B6
    have b7 := hk.boxed (hSy _ (by omega) (by omega)) B7
    have hWs := hk.1
    clear hk hSn hSy hSlt seq1 B5 B6 B7 B8 B9 B10 HCa HCb hb20 S
    have c5 := b5.cell
    have c7 := b7.cell
    have c9 := b9.cell
    go_upto_region 14 with fail
    go_cut [72] from 63 (fun s72 wx => s72 = .bool false ∧ wx = W)
    case first =>
      rcases hj with rfl | hj
      · have g : ((T.length : Int) != T.length) = false := by simp
        go_wp2_with fail
        go_meet
        exact ⟨rfl, rfl⟩
      · have g : ((j : Int) != stop) = false := by simpa using hj
        clear hj
        by_cases hj2 : j = T.length
        · have g2 : ((j : Int) != T.length) = false := by simp [hj2]
          clear hj2
          go_wp2_with fail
          go_meet
          exact ⟨rfl, rfl⟩
        · have g2 : ((j : Int) != T.length) = true := by simp; omega
          clear hj2
          go_wp2_with fail
          go_meet
          exact ⟨rfl, rfl⟩
    case rest =>
      obtain ⟨rfl, hwc⟩ := hcut
      have hwc2 : W = _ := hwc.symm
      subst hwc2
      clear c5 c7 c9 b5 b7 b9
      have hb6 : (w.heap.size + 1) < W.heap.size := by omega
      have Hb6 := Lib.hid b6
      have HK := Lib.hid hK
      clear b6 hK
      have hDl : D < W.heap.size := (Array.getElem?_eq_some_iff.1 HK.out).1
      go_wp2
      go_loopw [12, 14] (fun v12 v14 wr => ∃ i : Nat, v14 = .int .i64 i ∧ i ≤ l1.length ∧ (∃ vall, Boxed wr W.heap.size 35 vall ∧ Hid (Kd.R (Kd.int .u64) 22 wr W.heap.size (fun _ => True) vall (fil (l1.take i)))) ∧ Hid (Kd.R (Kd.int .u8) 5 wr W.heap.size (fun _ => True) v12 (flat (l1.take i))) ∧ Hid (Below W.heap.size W wr) ∧ W.heap.size < wr.heap.size) (fun _ v14 _ => l1.length - (intOf v14).toNat)
      case atStart => exact ⟨0, rfl, Nat.zero_le _, ⟨_, Boxed.new W 35 _, Lib.hid (Kd.R_nil _ _ _ _ _)⟩, Lib.hid (Kd.R_nil _ _ _ _ _), Lib.hid ((Below.refl _ W).alloc (Nat.le_refl _) _), by simp⟩
      case round =>
        obtain ⟨i, rfl, hi, ⟨vall, ba, HRa⟩, HRr, Hbw, hws⟩ := hrel
        by_cases hlt : i < l1.length
        · have hb1 : decide ((i : Int) < (l1.length : Int)) = true := decide_eq_true (by omega)
          have hC1 : Kd.C (Kd.int .u64) wr A1 l1.length l1 := Kd.C_below Hr1.out (hbl.trans (Hbw.out.mono (by omega)))
          obtain ⟨ad, rfl, hx⟩ := Kd.at_int hC1 (i : Int) (by omega) (by omega)
          have rx : rd l1 (i : Int) = l1[i] := by simp [rd, hlt]
          rw [rx, Int.toNat_natCast] at hx
          clear rx hC1
          obtain ⟨x, hxe⟩ : ∃ x, l1[i] = x := ⟨_, rfl⟩
          rw [hxe] at hx
          have hxb := Hb1.out x (hxe ▸ List.getElem_mem hlt)
          have Htk := Lib.hid (show l1.take (i + 1) = l1.take i ++ [x] by rw [← List.take_append_getElem hlt, hxe])
          obtain ⟨kp, hkp⟩ := (rput_yes x hxb.1).rounds
          have Hkp := Lib.hid hkp
          have h9 := putI_len_le x
          have hfl : (flat (l1.take i)).length ≤ 540 := by have := flat_len (l1.take i); rw [List.length_take] at this; omega
          clear hkp hxe
          go_upto_region 22 with (first | (go_at_call 12; refine (embrasureref01_Put.calls kp x (putI x) _ Hkp.out).mono ?_; rintro e w3 ⟨vp, rfl, hRp, hbp⟩; obtain ⟨Ap, cp, rfl, hcp, hCp⟩ := Kd.R_reads hRp) | ((with_reducible refine gate_builtin (b := .append) (xs := #[.tmp 79, .tmp 84]) rfl ?_); at_builtin; refine Kd.R_append_row (Value.int .u8) (0 : Int) (w0 := W) W.heap.size rfl (.tmp 79) (.tmp 84) 23 5 (.int .u8 0) 1 rfl Try.underlying23 info5 rfl (by omega) u12 (flat (l1.take i)) (putI x) Ap (putI x).length cp (fun _ => True) rfl rfl (fun _ _ => trivial) (Kd.R_below HRr.out hbp) hCp (Hbw.out.trans (hbp.mono (by omega))) (by have := hbp.size; omega) (by omega) ?_; intro v1 w4 ho hb hg hat))
          have HRr3 := Lib.hid (Kd.R_below HRr.out hbp)
          have HRa3 := Lib.hid (Kd.R_below HRa.out hbp)
          have ba3 := Boxed.below ba hbp
          have hne13 : some W.heap.size ≠ u12.ownBlock := fun e => by
            obtain ⟨cells, hc⟩ := Kd.R_typed HRr3.out _ e.symm
            rw [ba3] at hc
            cases hc
          have HRa4 := Lib.hid (Kd.R_over' HRa3.out (Kd.R_typed HRr3.out) (by decide) hg)
          have ba4 := ba3.kept hg hne13
          have hx4 : w4.cell? (ad.add i) = some (.int .u64 x) := by
            have := Kd.at_int (Kd.C_below Hr1.out (hbl.trans (hb.mono (by omega)))) (i : Int) (by omega) (by omega)
            obtain ⟨ad', e', hx'⟩ := this
            cases e'
            have hwx := Kd.at_int (Kd.C_below Hr1.out (hbl.trans (Hbw.out.mono (by omega)))) (i : Int) (by omega) (by omega)
            obtain ⟨ad'', e'', hx''⟩ := hwx
            cases e''
            rw [Int.toNat_natCast] at hx' hx''
            rw [hx] at hx''
            injection hx'' with hx''
            rw [← hx''] at hx'
            exact hx'
          have Ho := Lib.hid (show Kd.R (Kd.int .u8) 5 w4 W.heap.size (fun _ => True) v1 (flat (l1.take (i + 1))) by rw [Htk.out, flat_snoc]; exact ho)
          have Hb := Lib.hid hb
          have hsz4 : W.heap.size < w4.heap.size := by have := hg.size; have := hbp.size; omega
          clear ho hb hg hat hRp hcp hCp hbp HRr3 HRa3 ba3 hne13 hx HRa HRr ba
          have hfil : (fil (l1.take i)).length ≤ 60 := by
            have h1 : (fil (l1.take i)).length ≤ (l1.take i).length := List.length_filter_le _ _
            rw [List.length_take] at h1; omega
          have c13 := ba4.cell
          have f13 := ba4.frozen
          by_cases hle : x ≤ 9223372036854775807
          · have hleb : decide (x ≤ 9223372036854775807) = true := decide_eq_true hle
            have Htf := Lib.hid (show fil (l1.take (i + 1)) = fil (l1.take i) ++ [x] by rw [Htk.out, fil, List.filter_append]; simp [fil, hle])
            clear hle
            go_upto_region 23 with fail
            obtain ⟨i0, hi0, hz0, hsz0, hby0⟩ := info_parts info22
            have Hz0 := Lib.hid hz0
            have Hsz0 := Lib.hid hsz0
            have Hby0 := Lib.hid hby0
            have Hi0 := Lib.hid hi0
            clear hi0 hz0 hsz0 hby0
            have Hmx := Lib.hid (show ∀ n : Nat, n ≤ 1000 → n ≤ maxLen from fun n h => Nat.le_trans h (by decide))
            have Hown := Lib.hid (fun o => Kd.own_of_R (Kd.R_alloc (Kd.R_drew HRa4.out) o))
            have Hnews := Lib.hid (World.news_of_block (w := w4.drew.alloc (.cells #[.int .u64 x] 22)) (B := w4.heap.size) (World.alloc_heap_new w4.drew (.cells #[.int .u64 x] 22)))
            have ba5 := Boxed.alloc (show Boxed w4.drew W.heap.size 35 vall from ba4) (.cells #[.int .u64 x] 22)
            have hne5 : some W.heap.size ≠ vall.ownBlock := fun e => by
              obtain ⟨cells, hc⟩ := Kd.R_typed HRa4.out _ e.symm
              rw [ba4] at hc
              cases hc
            have Hne5 := Lib.hid hne5
            have Ha5 := Lib.hid ba5
            clear hne5 ba5
            refine wp_calm ?_
            go_region_law (refine step_append_lies _ rfl (.tmp 91) (.tmp 96) 35 rfl W.heap.size 22 i0 (.int .u64 0) 1 8 Try.underlying35 Hi0.out Hz0.out Hsz0.out Hby0.out rfl (by decide) vall (fil (l1.take i)).length _ (by simp [Act.eval]) (Hown.out _) ⟨w4.heap.size, 0, none⟩ 1 1 [.int .u64 x] (by simp [Act.eval]) rfl Hnews.out (by intro u hu; simp at hu; subst hu; rfl) (by omega) (Hmx.out _ (by omega)) (by omega) (by simp; omega) (w4.heap.size + 1) (by simp) ?_; intro g cap w5 ho5 hg5 hat5 hgl; have b5_ := Boxed.kept Ha5.out hg5 Hne5.out; have c5_ := b5_.cell; have f5_ := b5_.frozen)
            all_goals
              have Ha6 := Lib.hid (b5_.set (.slice (some ⟨g, 0, none⟩) ((fil (l1.take i)).length + 1) cap))
              have Ho5 := Lib.hid (show Kd.R (Kd.int .u64) 22 (w5.setCell ⟨W.heap.size, 0, none⟩ (.slice (some ⟨g, 0, none⟩) ((fil (l1.take i)).length + 1) cap)) W.heap.size (fun _ => True) (.slice (some ⟨g, 0, none⟩) ((fil (l1.take i)).length + 1) cap) (fil (l1.take (i + 1))) by
                refine Kd.R_set ?_ b5_ (by decide) 0 _
                rw [Htf.out]
                refine Kd.R_of_own (enc := Value.int .u64) ?_ (fun _ _ => trivial)
                rw [encs_append, List.length_append, List.length_singleton]
                exact ho5)
              have Hr5 := Lib.hid (Kd.R_set (Kd.R_over' (Kd.R_alloc (Kd.R_drew Ho.out) (.cells #[.int .u64 x] 22)) (Kd.R_typed (Kd.R_alloc (Kd.R_drew HRa4.out) (.cells #[.int .u64 x] 22))) (by decide) hg5) b5_ (by decide) 0 (.slice (some ⟨g, 0, none⟩) ((fil (l1.take i)).length + 1) cap))
              have Hb5 := Lib.hid (show Below W.heap.size W (w5.setCell ⟨W.heap.size, 0, none⟩ (.slice (some ⟨g, 0, none⟩) ((fil (l1.take i)).length + 1) cap)) from (Below.grown ((below_drew Hb.out).alloc (by simp; omega) _) hg5 (by simp; omega) (fun k e => ((Kd.R_bound HRa4.out).1 k e).2.1)).setCell (p := ⟨W.heap.size, 0, none⟩) (by simp) _)
              have hsz5 : W.heap.size < (w5.setCell ⟨W.heap.size, 0, none⟩ (.slice (some ⟨g, 0, none⟩) ((fil (l1.take i)).length + 1) cap)).heap.size := by have := hg5.size; simp [World.setCell] at this ⊢; omega
              clear ho5 hg5 hat5 b5_ c5_ f5_ c13 f13 ba4
              go_wp2
              go_roundw
              · exact ⟨i + 1, rfl, by omega, ⟨_, Ha6.out, Ho5⟩, Hr5, Hb5, hsz5⟩
              · simp [intOf]; omega
          · have hleb : decide (x ≤ 9223372036854775807) = false := decide_eq_false hle
            have Htf := Lib.hid (show fil (l1.take (i + 1)) = fil (l1.take i) by rw [Htk.out, fil, List.filter_append]; simp [fil, hle])
            have Ha7 := Lib.hid (show Kd.R (Kd.int .u64) 22 w4 W.heap.size (fun _ => True) vall (fil (l1.take (i + 1))) by rw [Htf.out]; exact HRa4.out)
            clear hle
            go_wp2
            go_roundw
            case rel => exact ⟨i + 1, rfl, by omega, ⟨_, ba4, Ha7⟩, Ho, Hb, hsz4⟩
            case measure => simp [intOf]; omega
        · have hb1 : decide ((i : Int) < (l1.length : Int)) = false := decide_eq_false (by omega)
          have htake : l1.take i = l1 := List.take_of_length_le (by omega)
          rw [htake] at HRa HRr
          clear htake
          have HB3 := Lib.hid (hbl.trans (Hbw.out.mono (by omega)))
          have hsr := Hbw.out.size
          obtain ⟨Av, cv, rfl, hcv, hCv⟩ := Kd.R_reads HRa.out
          obtain ⟨Ar, cr, rfl, hcr, hCr⟩ := Kd.R_reads HRr.out
          have c13 := ba.cell
          go_wp2_with (go_at_call 17; refine (each_maker Ar (flat l1).length cr _).mono ?_; rintro e w3 ⟨rfl, rfl⟩)
          obtain ⟨V0, hV0⟩ : ∃ V0, (wr.alloc (.cells #[.int .i64 0] 3)).alloc (.cells #[.slice Ar (flat l1).length cr] 23) = V0 := ⟨_, rfl⟩
          rw [hV0]
          have hs2 : V0.heap.size = wr.heap.size + 2 := by rw [← hV0]; simp
          have hb0V : Below wr.heap.size wr V0 := by rw [← hV0]; exact ((Below.refl _ wr).alloc (Nat.le_refl _) _).alloc (by simp) _
          have B15 : Boxed V0 wr.heap.size 3 (.int .i64 0) := by rw [← hV0]; exact (Boxed.new wr 3 (.int .i64 0)).alloc _
          have B23 : Boxed V0 (wr.heap.size + 1) 23 (.slice Ar (flat l1).length cr) := by
            rw [← hV0]; have := Boxed.new (wr.alloc (.cells #[.int .i64 0] 3)) 23 (.slice Ar (flat l1).length cr); rw [World.size_alloc] at this; exact this
          have B13 := Boxed.below ba hb0V
          have B6 : Boxed V0 (w.heap.size + 1) 4 (.bool false) := (hb0V.block _ (by omega)).trans ((Hbw.out.block _ hb6).trans Hb6.out)
          have BD : V0.heap[D]? = some (.deferred (some [])) := (hb0V.block _ (by omega)).trans ((Hbw.out.block _ hDl).trans HK.out)
          have hbw3 : Below w.heap.size w V0 := HB3.out.trans (hb0V.mono (by omega))
          have hflb : ∀ x ∈ flat l1, 0 ≤ x ∧ x ≤ 255 := flat_bytes l1 (fun v hv => (Hb1.out v hv).1)
          have hf60 : (fil l1).length ≤ 60 := Nat.le_trans (List.length_filter_le _ _) h60
          have hfll : (flat l1).length ≤ 540 := by have := flat_len l1; omega
          obtain ⟨T2, hT2⟩ : ∃ T2, eachL (flat l1) = T2 := ⟨_, rfl⟩
          have hT2s : T2.map Prod.snd = fil l1 := by
            rw [← hT2, ← flat_fil l1, eachL_flat _ (fun v hv => ?_), posL_snd]
            have := List.mem_filter.1 hv
            exact ⟨(Hb1.out v this.1).1, by simpa using this.2⟩
          obtain ⟨S, hS⟩ : ∃ S : Nat → Prop, S = fun b => b ≠ wr.heap.size ∧ b < V0.heap.size := ⟨_, rfl⟩
          have hSlt : ∀ b, S b → b < V0.heap.size := fun b hb => by rw [hS] at hb; exact hb.2
          have hSn : ¬ S wr.heap.size := fun hb => by rw [hS] at hb; exact hb.1 rfl
          have hSy : ∀ b, b < V0.heap.size → b ≠ wr.heap.size → S b := fun b h1 h2 => by rw [hS]; exact ⟨h2, h1⟩
          clear hS hV0
          have hCr2 : ∀ V, KeepS S V0 V → Kd.C (Kd.int .u8) V Ar (flat l1).length (flat l1) := fun V hV =>
            (Kd.R_reads' (Kd.R_step (w1 := V) (Kd.R_bound HRr.out) (fun k hk hlt => (hV.2 k (hSy k (by omega) (by omega))).trans (hb0V.block k hlt)))).2.2
          have hCv2 : ∀ V, KeepS S V0 V → Kd.C (Kd.int .u64) V Av (fil l1).length (fil l1) := fun V hV =>
            (Kd.R_reads' (Kd.R_step (w1 := V) (Kd.R_bound HRa.out) (fun k hk hlt => (hV.2 k (hSy k (by omega) (by omega))).trans (hb0V.block k hlt)))).2.2
          have seq2 := each_stops 7 (by omega) S (wr.heap.size + 1) Ar cr (flat l1) V0 (hSy _ (by omega) (by omega)) hSlt B23.cell hcr (by omega) hflb hCr2
          rw [hT2] at seq2
          have HCv := Lib.hid hCv2
          have HT2s := Lib.hid hT2s
          clear hCr2 hCv2 hT2 hT2s hCv hCr hcv hcr hflb hfll HRa HRr ba c13
          refine (wpIn_wide (n := 8)).1 ?_
          refine wpIn_rangeFunc_ownF rfl (by omega) (gf := 19) (lb := #[.pointer (some ⟨wr.heap.size + 1, 0, none⟩)]) rfl trivial (enters_of Try.func19 (by kernel_rfl) rfl)
            seq2 KeepS.trans (fun W l o o' hl h _ _ => KeepS.put W l o o' (fun hb => by have := hSlt l hb; omega) h) (Below.refl _ _) (fun _ => rfl)
            (fun pre V => pre.map Prod.snd <+: fil l1 ∧ KeepS S V0 V ∧ Boxed V wr.heap.size 3 (.int .i64 pre.length) ∧ Below w.heap.size w V)
            (fun c pre V => c = .ret ∧ ¬ pre.map Prod.snd <+: fil l1)
            ?hI2 ?hIx2 ?h02 ?a12 ?assign2 ?body2 ?done2 ?stop2
          case assign2 =>
            intro l x W K hK
            gi_wp2
            exact hK
          case hI2 =>
            rintro s X Y row ⟨h1, h2, h3, h4⟩ hg hr
            exact ⟨h1, h2.grown hSlt hg (fun r e hb => by have := (hr r e).1; have := hSlt r hb; omega), boxed_own _ _ (fun _ : Unit => _) () X Y row h3 hg (fun r e => (hr r e).2), h4.grown hg (Nat.le_trans hbw3.size h2.1) (fun k e => by have := (hr k e).1; omega)⟩
          case hIx2 => exact fun cc s X Y row h hg hr => h
          case h02 => exact ⟨List.nil_prefix, KeepS.refl _ _, B15, hbw3⟩
          case body2 =>
            rintro l pre ⟨x1, x2⟩ V ⟨hp, hk, b9, hbl⟩ _
            have Ql : Hid (pre.length < 200000000000000) := ‹_›
            clear ‹pre.length < 200000000000000›
            have Hp := Lib.hid hp
            have Hk := Lib.hid hk
            have HSn := Lib.hid hSn
            have b6 := hk.boxed (hSy _ (by omega) (by omega)) B6
            have b13 := hk.boxed (hSy _ (by omega) (by omega)) B13
            clear hp hk hSn hSy hSlt seq2 B6 B13 B15 B23 BD
            obtain ⟨j, hj⟩ : ∃ j, pre.length = j := ⟨_, rfl⟩
            rw [hj] at b9
            have Hj := Lib.hid hj
            clear hj
            have f6 := b6.frozen
            have c6 := b6.cell
            have c13 := b13.cell
            have c9 := b9.cell
            have f9 := b9.frozen
            clear b6 b13
            by_cases hjc : j < (fil l1).length
            · obtain ⟨ada, ea, hxa⟩ := Kd.at_int (HCv.out V Hk.out) (j : Int) (by omega) (by omega)
              have ra : rd (fil l1) (j : Int) = (fil l1)[j] := by simp [rd, hjc]
              rw [ra, Int.toNat_natCast] at hxa
              clear ra
              have hsn := snoc_prefix x2 Hp.out
              rw [List.length_map, Hj.out, List.getElem?_eq_getElem hjc] at hsn
              have Hsn := Lib.hid hsn
              clear hsn
              obtain ⟨t, ht⟩ : ∃ t, (fil l1)[j] = t := ⟨_, rfl⟩
              rw [ht] at hxa Hsn
              clear ht
              have hjg : decide (((fil l1).length : Int) ≤ j) = false := decide_eq_false (by omega)
              by_cases h2 : x2 = t
              · have h2b : (x2 != t) = false := by simpa using h2
                have Hpx := Lib.hid (Hsn.out.2 (by rw [h2]))
                clear h2
                gi_wp2
                refine ⟨KeepsOthers.setCell _ _ _, KeepS.setCell HSn.out _, by rw [List.map_append]; exact Hpx.out, Hk.out.trans (KeepS.setCell HSn.out _), ?_, hbl.setCell (p := ⟨wr.heap.size, 0, none⟩) (by show w.heap.size ≤ wr.heap.size; omega) _⟩
                rw [List.length_append, Hj.out]; exact b9.set _
              · have h2b : (x2 != t) = true := by simpa using h2
                have H2 := Lib.hid h2
                clear h2
                gi_wp2
                exact ⟨KeepsOthers.setCell _ _ _, rfl, fun h => H2.out (by rw [List.map_append] at h; have := Hsn.out.1 h; simp at this; exact this.symm)⟩
            · have hjc' : decide (((fil l1).length : Int) ≤ j) = true := decide_eq_true (by omega)
              gi_wp2
              exact ⟨KeepsOthers.setCell _ _ _, rfl, fun h => by rw [List.map_append] at h; have := (snoc_prefix x2 Hp.out).1 h; rw [List.length_map, Hj.out, List.getElem?_eq_none (by omega)] at this; cases this⟩
          case done2 =>
            rintro D2 xs V hD2 rfl ⟨hp, hk, b9, hbl3⟩ hK2
            have hlen : xs.length = (fil l1).length := by rw [← HT2s.out, List.length_map]
            have b6 := hk.boxed (hSy _ (by omega) (by omega)) B6
            have b13 := hk.boxed (hSy _ (by omega) (by omega)) B13
            have hKD : V.heap[D]? = some (.deferred (some [])) := (hk.2 D (hSy _ (by omega) (by omega))).trans BD
            rw [hlen] at b9
            clear hp hk hlen HT2s
            have f6 := b6.frozen
            have c6 := b6.cell
            have c13 := b13.cell
            have c9 := b9.cell
            go_wp2
            have hKD' := (KeepsOthers.setCell V ⟨w.heap.size + 1, 0, none⟩ (.bool true)).same D _ hKD rfl
            have hK2' := (KeepsOthers.setCell V ⟨w.heap.size + 1, 0, none⟩ (.bool true)).same D2 _ hK2 rfl
            have hKD2 : ((V.setCell ⟨w.heap.size + 1, 0, none⟩ (.bool true)).putObj D2 (.deferred none)).heap[D]? = some (.deferred (some [])) := ((grownBy_putObj' _ D2 (.deferred none)).block D (Array.getElem?_eq_some_iff.1 hKD').1 (fun e => by cases e; omega)).trans hKD'
            refine ⟨by simp, .inl ⟨_, _, rfl, run_takeDeferred hK2', ?_⟩⟩
            refine ⟨by simp, .inl ⟨_, _, rfl, run_takeDeferred hKD2, ?_⟩⟩
            have hc5 := cell_kept (World.cell?_setCell_same' V ⟨w.heap.size + 1, 0, none⟩ (.bool true) (by rw [c6]; rfl)) (grownBy_putObj' _ D2 (.deferred none)) (fun r e => by cases e; exact ⟨_, hK2', rfl⟩)
            have hc6 := cell_kept hc5 (grownBy_putObj' _ D (.deferred none)) (fun r e => by cases e; exact ⟨_, hKD2, rfl⟩)
            refine ⟨.bool true, ?_, rfl, ((hbl3.setCell (p := ⟨w.heap.size + 1, 0, none⟩) (by simp) _).trans (belowK_b (w := w) (Nat.le_refl _) _ D2 _ _ (by omega) hK2' rfl rfl)).trans (belowK_b (w := w) (Nat.le_refl _) _ D _ _ (by omega) hKD2 rfl rfl)⟩
            simp [results, Try.f7, go_sem, hc6]
          case stop2 =>
            rintro D2 jmp pre V hD2 hS hX hK2
            have : pre.map Prod.snd <+: fil l1 := by rw [← HT2s.out]; exact hS.map Prod.snd
            exact absurd this hX.2
  · intro a' W h
    exact h

theorem law7_early (A0 : Option Addr) (c0 : Nat) (l0 : List Int) (A1 : Option Addr) (c1 : Nat) (l1 : List Int) (stop : Int) (w : World) (h : 300 < l0.length ∨ 60 < l1.length) :
    Calls Try.prog 7 #[.slice A0 l0.length c0, .slice A1 l1.length c1, .int .u8 stop] w fun e w' => e = .returned (.bool true) ∧ Below w.heap.size w w' := by
  obtain ⟨ka, hka⟩ := awake_yes.rounds
  have Haw := Lib.hid hka
  clear hka
  have fin : ∀ w1 : World, Below (w.heap.size + 1 + 1) ((w.alloc (.cells #[.int .u8 stop] 5)).alloc (.cells #[.bool false] 4)) w1 → Below w.heap.size w (w1.setCell ⟨w.heap.size + 1, 0, none⟩ (.bool true)) :=
    fun w1 hb1 => ((((Below.refl _ w).alloc (Nat.le_refl _) _).alloc (by simp) _).trans (hb1.mono (by omega))).setCell (p := ⟨w.heap.size + 1, 0, none⟩) (by simp) _
  have Fin := Lib.hid fin
  clear fin
  by_cases h1 : 300 < l0.length
  · have g1 : decide (300 < (l0.length : Int)) = true := decide_eq_true (by omega)
    go_enter Try.func7, Try.ntmps7
    go_wp2_with (go_at_call 9; refine (embrasurelaw01_awake.calls _ _ _ Haw.out).mono ?_; rintro e w1 ⟨rfl, hb1⟩; obtain ⟨hc1, hf1⟩ := bcell hb1; have hz1 := hb1.size; simp only [World.size_alloc] at hz1)
    have hc5 := World.cell?_setCell_same' w1 ⟨w.heap.size + 1, 0, none⟩ (.bool true) (by rw [hc1 _ _ (by simp)]; simp)
    refine bodyPost_ret (v := .bool true) (by simp [results, Try.results7, go_sem, hc5]) rfl ⟨rfl, Fin.out _ (by simpa using hb1)⟩
  · have g1 : decide (300 < (l0.length : Int)) = false := decide_eq_false (by omega)
    have g2 : decide (60 < (l1.length : Int)) = true := decide_eq_true (by omega)
    clear h
    go_enter Try.func7, Try.ntmps7
    go_wp2_with (go_at_call 9; refine (embrasurelaw01_awake.calls _ _ _ Haw.out).mono ?_; rintro e w1 ⟨rfl, hb1⟩; obtain ⟨hc1, hf1⟩ := bcell hb1; have hz1 := hb1.size; simp only [World.size_alloc] at hz1)
    have hc5 := World.cell?_setCell_same' w1 ⟨w.heap.size + 1, 0, none⟩ (.bool true) (by rw [hc1 _ _ (by simp)]; simp)
    refine bodyPost_ret (v := .bool true) (by simp [results, Try.results7, go_sem, hc5]) rfl ⟨rfl, Fin.out _ (by simpa using hb1)⟩

theorem law7_row (A0 : Option Addr) (c0 : Nat) (l0 : List Int) (A1 : Option Addr) (c1 : Nat) (l1 : List Int) (stop : Int) (w : World) (hr0 : Kd.C (Kd.int .u8) w A0 l0.length l0) (hc0 : l0.length ≤ c0) (_ : l0.length * 1 ≤ 140737488351232) (hb0 : ∀ x ∈ l0, (Lit.int .u8 x).wf = true)
    (hr1 : Kd.C (Kd.int .u64) w A1 l1.length l1) (hc1 : l1.length ≤ c1) (_ : l1.length * 8 ≤ 140737488351232) (hb1 : ∀ x ∈ l1, (Lit.int .u64 x).wf = true) (hs : (Lit.int .u8 stop).wf = true) :
    Calls Try.prog 7 #[.slice A0 l0.length c0, .slice A1 l1.length c1, .int .u8 stop] w fun e w' => e = .returned (.bool true) ∧ Below w.heap.size w w' := by
  by_cases h : l0.length ≤ 300 ∧ l1.length ≤ 60
  · exact law7_in A0 c0 l0 A1 c1 l1 stop w hr0 hc0 (fun x hx => bounds_u8 (hb0 x hx)) hr1 hc1 (fun x hx => bounds_u64 (hb1 x hx)) (bounds_u8 hs).1 (bounds_u8 hs).2 h.1 h.2
  · exact law7_early A0 c0 l0 A1 c1 l1 stop w (by omega)

end Go.Proofs.Ytehdjpjjldgklaa.Uv
