/-
  FrameStops: the walk of the law: whatever the rows, where one stops, and the bytes behind: it returns true, and nothing that lay has turned. Condition: the rows are bytes.
-/
import Derived.Test.YtcngadkcnnkimaaFj
namespace Go.Proofs.Ytcngadkcnnkimaa.Fr
open Go.RowKit Go.Shelf Go.Proofs.Ytcngadkcnnkimaa.H Go.Proofs.Ytcngadkcnnkimaa.Uv Go.Proofs.YtcngadkcnnkimaaW.PrintWords Go.Proofs.YtcngadkcnnkimaaW.PrintLast Go.Proofs.YtcngadkcnnkimaaW.PrintMore
set_option linter.unusedVariables false
set_option linter.unusedSimpArgs false
attribute [local go_sem] Oper.semAt_some

set_option maxRecDepth 100000 in
set_option maxHeartbeats 1000000 in
theorem stops_in (A0 : Option Addr) (c0 : Nat) (l0 : List (List Int)) (stop : Int) (A1 : Option Addr) (c1 : Nat) (l1 : List Int) (w : World) (hr0 : (Kd.slice 5 (Kd.int .u8)).C w A0 l0.length l0) (hc0 : l0.length ≤ c0) (hb0 : ∀ r ∈ l0, Bytes r) (h60 : l0.length ≤ 60)
    (hs0 : 0 ≤ stop) (hs1 : stop ≤ 255) (hr1 : Kd.C (Kd.int .u8) w A1 l1.length l1) (hc1 : l1.length ≤ c1) (hb1 : Bytes l1) (h40 : l1.length ≤ 40) :
    Calls Try.prog 7 #[.slice A0 l0.length c0, .int .u8 stop, .slice A1 l1.length c1] w fun e w' => e = .returned (.bool true) ∧ Below w.heap.size w w' := by
  obtain ⟨ka, hka⟩ := awake_yes.rounds
  obtain ⟨k0, hk0⟩ := (join_yes l0 (by omega)).rounds
  have Ka := Lib.hid hka
  have K0 := Lib.hid hk0
  have HR0 := Lib.hid hr0
  have HR1 := Lib.hid hr1
  have HB0 := Lib.hid hb0
  have HBj := Lib.hid hb1
  clear hka hk0 hr0 hr1 hb0 hb1
  have g0 : decide (60 < (l0.length : Int)) = false := decide_eq_false (by omega)
  have g1 : decide (40 < (l1.length : Int)) = false := decide_eq_false (by omega)
  have BS0 := Boxed.new w 5 (.int .u8 stop)
  have hbs : Below w.heap.size w (w.alloc (.cells #[.int .u8 stop] 5)) := (Below.refl _ _).alloc (Nat.le_refl _) _
  have HBS := Lib.hid hbs
  have HBS0 := Lib.hid BS0
  clear BS0 hbs
  refine (callsIn_wide (n := 8)).1 ?_
  refine callsIn_of_wp_marks Try.func7 rfl trivial (wpIn_wide.2 ?_) rfl
  simp only [Try.ntmps7, List.size_toArray, List.length_cons, List.length_nil, Nat.reduceAdd, Nat.reduceSub, Array.replicate_succ, Array.replicate_zero, List.push_toArray, List.append_toArray, List.nil_append, List.cons_append]
  go_upto_region 5 with (go_at_call 8; refine (embrasurelaw02_awake.calls ka true _ Ka.out).mono ?_; rintro e w1 ⟨rfl, hb1⟩)
  have HB1 := Lib.hid (HBS.out.trans (hb1.mono HBS.out.size))
  have HSB := Lib.hid ((hb1.block w.heap.size (by simp)).trans HBS0.out)
  have HRr := Lib.hid (Kd.C_below HR0.out HB1.out)
  have hsz1 := HB1.out.size
  clear hb1
  go_wp2
  go_loop [7] (fun v7 => ∃ (i : Nat), v7 = .int .i64 i ∧ i ≤ l0.length ∧ Hid (∀ r ∈ l0.take i, r.length ≤ 1200)) (fun v7 => l0.length - (intOf v7).toNat)
  case atStart => exact ⟨0, rfl, Nat.zero_le _, Lib.hid (by simp)⟩
  case round =>
    obtain ⟨i, rfl, hi, HL⟩ := hrel
    by_cases hlt : i < l0.length
    · have b0 : decide ((i : Int) < (l0.length : Int)) = true := decide_eq_true (by omega)
      have b1 : (i : Int) < (l0.length : Int) := by omega
      obtain ⟨ad, A2, c2, rfl, hcell⟩ := row_cell HRr.out i hlt
      obtain ⟨m, hm⟩ : ∃ m, l0[i].length = m := ⟨_, rfl⟩
      rw [hm] at hcell
      have HM := Lib.hid hm
      clear hm
      by_cases h12 : 1200 < m
      · have q : decide (1200 < (m : Int)) = true := decide_eq_true (by omega)
        go_wp2
        exact ⟨.bool true, by simp [results, Try.f7, go_sem], rfl, HB1.out⟩
      · have q : decide (1200 < (m : Int)) = false := decide_eq_false (by omega)
        go_wp2
        go_round
        case rel => exact ⟨i + 1, by go_num, by omega, Lib.hid (fun r hr => by
          rw [List.take_succ_eq_append_getElem hlt] at hr
          rcases List.mem_append.1 hr with hr | hr
          · exact HL.out r hr
          · rw [List.mem_singleton.1 hr, HM.out]; omega)⟩
        case measure => simp [intOf]; omega
    · have b0 : decide ((i : Int) < (l0.length : Int)) = false := decide_eq_false (by omega)
      have hok : ∀ r ∈ l0, r.length ≤ 1200 := fun r hr => HL.out r (by rw [List.take_of_length_le (by omega)]; exact hr)
      have hany : l0.any (fun r => decide (1200 < r.length)) = false := by
        rw [List.any_eq_false]; intro r hr; have := hok r hr; simp; omega
      obtain ⟨z, hz⟩ : ∃ z, joinF l0 = z := ⟨_, rfl⟩
      have hja : joinA l0 = (z, 0) := by unfold joinA; rw [hany, ← hz]; rfl
      have hk0 := K0.out
      rw [hja] at hk0
      have K0' := Lib.hid hk0
      have hlen := joinF_len l0 1200 hok
      have hlen2 : l0.length * (9 + 1200) ≤ 60 * 1209 := Nat.mul_le_mul_right 1209 h60
      rw [hz] at hlen
      have hzl : z.length ≤ 100000 := by omega
      have hzb : Bytes z := by rw [← hz]; exact joinF_bytes l0 HB0.out
      have hrb : ∀ r ∈ l0, r.length ≤ 1200 ∧ Bytes r := fun r hr => ⟨hok r hr, HB0.out r hr⟩
      have hrows : ∀ more, Bytes more → rowsF (z ++ more) = (l0 ++ (rowsF more).1, (rowsF more).2) := fun more hm => by rw [← hz]; exact rowsF_join l0 more hrb hm
      have hrz : rowsF z = (l0, 0) := by have h := hrows [] (fun x hx => by simp at hx); rw [List.append_nil, rowsF_nil] at h; simpa using h
      obtain ⟨kz, hkz⟩ := (count_yes z hzb (by omega)).rounds
      rw [hrz] at hkz
      have KZ := Lib.hid hkz
      have HRW := Lib.hid hrows
      have HZB := Lib.hid hzb
      clear hok hany hz hja hk0 hlen hlen2 hrb hrows hrz hkz hzb HL
      go_upto_region 13 with (go_at_call 12; refine (frame_Join.calls k0 A0 c0 l0 z 0 _ HRr.out hc0 K0'.out).mono ?_; rintro e w2 ⟨vx, rfl, hRx, hb2⟩; obtain ⟨Az, cz, hvx, hcz, hCz⟩ := Kd.R_reads hRx; subst hvx; have HB2 := Lib.hid hb2; have HCz := Lib.hid hCz; clear hRx hb2 hCz)
      go_wp2_with (go_at_call 19; refine (frame_All_maker Az z.length cz _).mono ?_; rintro e w3 ⟨rfl, rfl⟩)
      obtain ⟨V0, hV0⟩ : ∃ V0, (w2.alloc (.cells #[.int .i64 0] 3)).alloc (.cells #[.slice Az z.length cz] 22) = V0 := ⟨_, rfl⟩
      rw [hV0]
      have hsV : V0.heap.size = w2.heap.size + 2 := by rw [← hV0]; simp
      have hbV : Below w2.heap.size w2 V0 := by rw [← hV0]; exact ((Below.refl _ w2).alloc (Nat.le_refl _) _).alloc (by simp) _
      have B3 : Boxed V0 w2.heap.size 3 (.int .i64 0) := by rw [← hV0]; exact (Boxed.new w2 3 _).alloc _
      have B22 : Boxed V0 (w2.heap.size + 1) 22 (.slice Az z.length cz) := by
        rw [← hV0]; have h := Boxed.new (w2.alloc (.cells #[.int .i64 0] 3)) 22 (.slice Az z.length cz); rw [World.size_alloc] at h; exact h
      have hs2 := HB2.out.size
      have hbw : Below w.heap.size w V0 := HB1.out.trans ((HB2.out.trans (hbV.mono hs2)).mono hsz1)
      have B4 : Boxed V0 w.heap.size 5 (.int .u8 stop) := by
        have hl : w.heap.size < w1.heap.size := (Array.getElem?_eq_some_iff.1 HSB.out).1
        exact (hbV.block _ (by omega)).trans ((HB2.out.block _ hl).trans HSB.out)
      have hw1 : w.heap.size < w1.heap.size := (Array.getElem?_eq_some_iff.1 HSB.out).1
      obtain ⟨S, hS⟩ : ∃ S : Nat → Prop, S = fun b => b ≠ w2.heap.size ∧ b < V0.heap.size := ⟨_, rfl⟩
      have hSlt : ∀ b, S b → b < V0.heap.size := fun b hb => by rw [hS] at hb; exact hb.2
      have hSn : ¬ S w2.heap.size := fun hb => by rw [hS] at hb; exact hb.1 rfl
      have hSy : ∀ b, b < V0.heap.size → b ≠ w2.heap.size → S b := fun b h1 h2 => by rw [hS]; exact ⟨h2, h1⟩
      clear hS hV0
      have hC0 : ∀ V, KeepS S V0 V → Kd.C (Kd.int .u8) V Az z.length z := fun V hV => Kd.Heap.C (Kd.heap_int _) (fun k hk => (hV.2 k (hSy k (by omega) (by omega))).trans (hbV.block k hk)) HCz.out
      have seq := frame_All1_stops 7 (by omega) S (w2.heap.size + 1) Az cz z kz (l0.length : Int) V0 (hSy _ (by omega) (by omega)) hSlt B22.cell hcz hC0 KZ.out
      clear hC0
      refine (wpIn_wide (n := 8)).1 (wpIn_join 2 (fun D W => (∃ j : Nat, Boxed W w2.heap.size 3 (.int .i64 j) ∧ (j = l0.length ∨ (j : Int) = stop)) ∧ KeepS S V0 W ∧ Below w.heap.size w W ∧ V0.heap.size ≤ D ∧ W.heap[D]? = some (.deferred (some []))) ?_ ?_ ?_)
      · refine wpIn_rangeFunc_ownF rfl (by omega) (gf := 28) (lb := #[.pointer (some ⟨w2.heap.size + 1, 0, none⟩)]) rfl trivial (enters_of Try.func28 (by kernel_rfl) rfl)
          seq KeepS.trans (fun W l o o' hl h _ _ => KeepS.put W l o o' (fun hb => by have := hSlt l hb; omega) h) (Below.refl _ _) (fun _ => rfl)
          (fun pre W => (stop = 0 ∨ (pre.length : Int) < stop) ∧ KeepS S V0 W ∧ Boxed W w2.heap.size 3 (.int .i64 pre.length) ∧ Below w.heap.size w W)
          (fun c pre W => c = .exit 2 ∧ (pre.length : Int) = stop ∧ KeepS S V0 W ∧ Boxed W w2.heap.size 3 (.int .i64 pre.length) ∧ Below w.heap.size w W)
          ?hI ?hIx ?h0 ?a1 ?assign ?body ?done ?stop
        case assign =>
          intro l x W K hK
          gi_wp2
          exact hK
        case hI =>
          rintro s X Y row ⟨h1, h2, h3, h4⟩ hg hr
          exact ⟨h1, h2.grown hSlt hg (fun r e hb => by have := (hr r e).1; have := hSlt r hb; omega), boxed_own _ _ (fun _ : Unit => _) () X Y row h3 hg (fun r e => (hr r e).2), h4.grown hg (Nat.le_trans hbw.size h2.1) (fun k e => by have := (hr k e).1; omega)⟩
        case hIx =>
          rintro cc s X Y row ⟨h0, h1, h2, h3, h4⟩ hg hr
          exact ⟨h0, h1, h2.grown hSlt hg (fun r e hb => by have := (hr r e).1; have := hSlt r hb; omega), boxed_own _ _ (fun _ : Unit => _) () X Y row h3 hg (fun r e => (hr r e).2), h4.grown hg (Nat.le_trans hbw.size h2.1) (fun k e => by have := (hr k e).1; omega)⟩
        case h0 => exact ⟨by simp; omega, KeepS.refl _ _, B3, hbw⟩
        case body =>
          rintro l pre x W ⟨hpl, hk, b9, hbl⟩ hlt
          have Ql := Lib.hid hlt
          have Hk := Lib.hid hk
          have HSn := Lib.hid hSn
          have b4 := hk.boxed (hSy _ (by omega) (by omega)) B4
          obtain ⟨j, hj⟩ : ∃ j, pre.length = j := ⟨_, rfl⟩
          rw [hj] at hpl b9 Ql
          have Hj := Lib.hid hj
          have hjl := Ql.out
          have c4 := b4.cell
          have c9 := b9.cell
          have f9 := b9.frozen
          clear hlt hk hSn hSy hSlt seq B3 B4 B22 hj b4
          by_cases h3 : (j : Int) + 1 = stop
          · have h3b : ((j : Int) + 1 == stop) = true := by simpa using h3
            have H3 := Lib.hid h3
            clear h3
            gi_wp2
            refine ⟨KeepsOthers.setCell _ _ _, rfl, ?_, Hk.out.trans (KeepS.setCell HSn.out _), ?_, hbl.setCell (p := ⟨w2.heap.size, 0, none⟩) (by show w.heap.size ≤ w2.heap.size; omega) _⟩
            · rw [List.length_append, Hj.out]; simpa using H3.out
            · rw [List.length_append, Hj.out]; exact b9.set _
          · have h3b : ((j : Int) + 1 == stop) = false := by simpa using h3
            have H3 := Lib.hid (show stop = 0 ∨ (j : Int) + 1 < stop by omega)
            clear h3
            gi_wp2
            refine ⟨KeepsOthers.setCell _ _ _, KeepS.setCell HSn.out _, ?_, Hk.out.trans (KeepS.setCell HSn.out _), ?_, hbl.setCell (p := ⟨w2.heap.size, 0, none⟩) (by show w.heap.size ≤ w2.heap.size; omega) _⟩
            · rw [List.length_append, Hj.out]; simpa using H3.out
            · rw [List.length_append, Hj.out]; exact b9.set _
        case done =>
          rintro D xs W hD hxs ⟨hpl, hk, b9, hbl⟩ hK
          exact ⟨.inl rfl, D, rfl, ⟨_, b9, .inl (by have : (xs.length : Int) = (l0.length : Int) := hxs; omega)⟩, hk, hbl, hD, hK⟩
        case stop =>
          rintro D c pre W hD hS ⟨rfl, hp, hk, b9, hbl⟩ hK
          gi_wp2
          exact ⟨⟨_, b9, .inr hp⟩, by omega⟩
      · rintro D W ⟨⟨j, b9, hj⟩, hk, hbl, hD, hK⟩
        have b4 := hk.boxed (hSy _ (by omega) (by omega)) B4
        have hWs := hk.1
        have hCzW := (Kd.Heap.C (Kd.heap_int _) (fun k hk' => (hk.2 k (hSy k (by omega) (by omega))).trans (hbV.block k hk')) HCz.out : Kd.C (Kd.int .u8) W Az z.length z)
        have HCzW := Lib.hid hCzW
        have HBL := Lib.hid hbl
        have HKD := Lib.hid hK
        have hDW : D < W.heap.size := (Array.getElem?_eq_some_iff.1 hK).1
        have c4 := b4.cell
        have c9 := b9.cell
        have KC := Lib.hid (frame_Count.calls kz Az cz z (l0.length : Int) W hCzW hcz KZ.out)
        clear hk hbl hK seq B3 B4 B22 hSy hSn hSlt hCzW b9 b4 S hbV
        go_upto_region 17 with fail
        go_cut [69] from 44 (fun s69 wx => s69 = .bool false ∧ Below W.heap.size W wx)
        case first =>
          have qn : ((l0.length : Int) == (l0.length : Int)) = true := by simp
          have qn' : (l0.length == l0.length) = true := by simp
          by_cases hjl : j = l0.length
          · subst hjl
            go_wp2_with (go_at_call 13; refine KC.out.mono ?_; rintro e w5 ⟨rfl, hb5⟩; have HB5 := Lib.hid hb5; clear hb5)
            all_goals
              go_meet
              case rel => exact ⟨rfl, HB5.out⟩
          · have q1 : ((j : Int) == (l0.length : Int)) = false := by rw [beq_eq_false_iff_ne]; omega
            have q1' : (j == l0.length) = false := by rw [beq_eq_false_iff_ne]; exact hjl
            have hjs : (j : Int) = stop := hj.resolve_left hjl
            have q1n : ¬ ((j : Int) = (l0.length : Int)) := by omega
            have q1b : ((j : Int) != (l0.length : Int)) = true := by simpa using q1n
            subst hjs
            have q2 : ((j : Int) == (j : Int)) = true := by simp
            have q2' : (j == j) = true := by simp
            clear hjl hj
            go_wp2_with (go_at_call 13; refine KC.out.mono ?_; rintro e w5 ⟨rfl, hb5⟩; have HB5 := Lib.hid hb5; clear hb5)
            all_goals
              go_meet
              case rel => exact ⟨rfl, HB5.out⟩
        case rest =>
          obtain ⟨h69, hbc⟩ := hcut
          subst h69
          have HBC := Lib.hid hbc
          obtain ⟨⟨more, cf⟩, hmore⟩ : ∃ q, rowsF l1 = q := ⟨_, rfl⟩
          obtain ⟨kl, hkl⟩ := (all_yes l1 HBj.out (by omega)).rounds
          rw [hmore] at hkl
          have KL := Lib.hid hkl
          have HML := Lib.hid (show more.length ≤ 100 from by have h := rowsF_len 100 l1 HBj.out (by omega); rw [hmore] at h; exact h)
          have hrw := HRW.out l1 HBj.out
          rw [hmore] at hrw
          have HX := Lib.hid hrw
          have hbx : Bytes (z ++ l1) := HZB.out.app HBj.out
          have hxl : (z ++ l1).length ≤ 200000 := by rw [List.length_append]; omega
          obtain ⟨x, hx⟩ : ∃ x, z ++ l1 = x := ⟨_, rfl⟩
          rw [hx] at hrw hbx hxl HX
          obtain ⟨kx, hkx⟩ := (count_yes x hbx (by omega)).rounds
          rw [hrw] at hkx
          dsimp only at hkx
          rw [List.length_append, show ((l0.length + more.length : Nat) : Int) = (l0.length : Int) + (more.length : Int) by omega] at hkx
          have KX := Lib.hid hkx
          have HXE := Lib.hid hx
          have HBX := Lib.hid hbx
          have HXL := Lib.hid hxl
          have KS := Lib.hid (fun (A : Option Addr) (c : Nat) (V : World) (hC : Kd.C (Kd.int .u8) V A x.length x) (hc : x.length ≤ c) => split_calls A c x V hC hc hbx (by omega))
          have qf : (cf == cf) = true := by simp
          clear hkl hrw hbx hx hkx hxl hmore hbc c4 c9 hj
          have qs2 : ((l0.length : Int) + (more.length : Int) == (l0.length : Int) + (more.length : Int)) = true := by simp
          have hml : more.length ≤ 100 := HML.out
          by_cases hcf : cf = 0
          case pos =>
            subst hcf
            go_wp2_with (first
              | (go_at_call 17; refine (embrasureref02_All.calls kl A1 c1 l1 more 0 _ (Kd.C_below HR1.out (HBL.out.trans (HBC.out.mono HBL.out.size))) hc1 KL.out).mono ?_; rintro e w6 ⟨v6, rfl, hR6, hb6⟩; obtain ⟨A6, c6, hv6, _, _⟩ := Kd.S_reads hR6; subst hv6; have HBW6 := Lib.hid (HBC.out.trans (hb6.mono HBC.out.size)); clear hR6 hb6)
              | ((with_reducible refine gate_dst (N := 76) rfl ?_); (try (refine gate_guard (by rfl) ?_; dsimp only)); refine Kd.R_lit (Kd.int .u8) _ 5 ?hg76 (N := 76) ?hd76 (xs := ([] : List Int)) (inner := []) (ok := fun _ => True) (okp := fun _ => True) ?hr76 ?hp76 (fun _ hk => hk) trivial (Below.refl _ _) (Nat.le_refl _) (by simp) ?_; (case hd76 => rfl); (case hg76 => rfl); (case hr76 => first | (go_simp; done) | (go_simp; rfl)); (case hp76 => exact (Reps.none _ _)); intro vL76 wL76 hoL76 hbL76 hgL76 hnewL76; clear hgL76 hnewL76)
              | ((with_reducible refine gate_builtin (b := .append) (xs := #[.tmp 76, .tmp 77]) rfl ?_); (try (refine gate_guard (by rfl) ?_; dsimp only)); at_builtin; refine Kd.R_append_row (Value.int .u8) (0 : Int) (w0 := w6) w6.heap.size rfl (.tmp 76) (.tmp 77) 22 5 (.int .u8 0) 1 rfl Try.underlying22 info8 rfl (by omega) vL76 [] z Az z.length cz (fun _ => True) rfl rfl (fun _ _ => trivial) hoL76 (Kd.C_below HCzW.out (HBW6.out.trans (hbL76.mono HBW6.out.size))) hbL76 hbL76.size (by simp; omega) ?_; intro vA78 wA78 hoA78 hbA78 hgA78 hatA78; rw [List.nil_append] at hoA78; clear hgA78 hatA78)
              | ((with_reducible refine gate_builtin (b := .append) (xs := #[.tmp 78, .tmp 79]) rfl ?_); (try (refine gate_guard (by rfl) ?_; dsimp only)); at_builtin; refine Kd.R_append_row (Value.int .u8) (0 : Int) (w0 := w6) w6.heap.size rfl (.tmp 78) (.tmp 79) 22 5 (.int .u8 0) 1 rfl Try.underlying22 info8 rfl (by omega) vA78 z l1 A1 l1.length c1 (fun _ => True) rfl rfl (fun _ _ => trivial) hoA78 (Kd.C_below HR1.out ((HBL.out.trans (HBW6.out.mono HBL.out.size)).trans (hbA78.mono (HBL.out.trans (HBW6.out.mono HBL.out.size)).size))) hbA78 hbA78.size (by simp; omega) ?_; intro vA80 wA80 hoA80 hbA80 hgA80 hatA80; rw [HXE.out] at hoA80; obtain ⟨AX80, cX80, hvX80, hcX80, hCX80⟩ := Kd.R_reads hoA80; subst hvX80; have HCX80 := Lib.hid hCX80; have HBA80 := Lib.hid hbA80; clear hgA80 hatA80 hoA80 hCX80 hbA80)
              | (go_at_call 16; refine (KS.out AX80 cX80 _ HCX80.out hcX80).mono ?_; rintro e w7 ⟨v7, he7, hR7, hb7⟩; rw [HX.out] at he7 hR7; dsimp only at he7 hR7; subst he7; have HB67 := Lib.hid (HBA80.out.trans (hb7.mono HBA80.out.size)); have HBW7 := Lib.hid (HBW6.out.trans (HB67.out.mono HBW6.out.size)); obtain ⟨A7, c7, hv7, _, _⟩ := Kd.R_reads hR7; rw [if_pos rfl, List.length_append] at hv7; subst hv7; clear hR7 hb7)
              | ((with_reducible refine gate_dst (N := 88) rfl ?_); (try (refine gate_guard (by rfl) ?_; dsimp only)); refine Kd.R_lit (Kd.int .u8) _ 5 ?hg88 (N := 88) ?hd88 (xs := ([] : List Int)) (inner := []) (ok := fun _ => True) (okp := fun _ => True) ?hr88 ?hp88 (fun _ hk => hk) trivial (Below.refl _ _) (Nat.le_refl _) (by simp) ?_; (case hd88 => rfl); (case hg88 => rfl); (case hr88 => first | (go_simp; done) | (go_simp; rfl)); (case hp88 => exact (Reps.none _ _)); intro vL88 wL88 hoL88 hbL88 hgL88 hnewL88; clear hgL88 hnewL88)
              | ((with_reducible refine gate_builtin (b := .append) (xs := #[.tmp 88, .tmp 89]) rfl ?_); (try (refine gate_guard (by rfl) ?_; dsimp only)); at_builtin; refine Kd.R_append_row (Value.int .u8) (0 : Int) (w0 := w7) w7.heap.size rfl (.tmp 88) (.tmp 89) 22 5 (.int .u8 0) 1 rfl Try.underlying22 info8 rfl (by omega) vL88 [] z Az z.length cz (fun _ => True) rfl rfl (fun _ _ => trivial) hoL88 (Kd.C_below HCzW.out (HBW7.out.trans (hbL88.mono HBW7.out.size))) hbL88 hbL88.size (by simp; omega) ?_; intro vA90 wA90 hoA90 hbA90 hgA90 hatA90; rw [List.nil_append] at hoA90; clear hgA90 hatA90)
              | ((with_reducible refine gate_builtin (b := .append) (xs := #[.tmp 90, .tmp 91]) rfl ?_); (try (refine gate_guard (by rfl) ?_; dsimp only)); at_builtin; refine Kd.R_append_row (Value.int .u8) (0 : Int) (w0 := w7) w7.heap.size rfl (.tmp 90) (.tmp 91) 22 5 (.int .u8 0) 1 rfl Try.underlying22 info8 rfl (by omega) vA90 z l1 A1 l1.length c1 (fun _ => True) rfl rfl (fun _ _ => trivial) hoA90 (Kd.C_below HR1.out ((HBL.out.trans (HBW7.out.mono HBL.out.size)).trans (hbA90.mono (HBL.out.trans (HBW7.out.mono HBL.out.size)).size))) hbA90 hbA90.size (by simp; omega) ?_; intro vA92 wA92 hoA92 hbA92 hgA92 hatA92; rw [HXE.out] at hoA92; obtain ⟨AX92, cX92, hvX92, hcX92, hCX92⟩ := Kd.R_reads hoA92; subst hvX92; have HCX92 := Lib.hid hCX92; have HBA92 := Lib.hid hbA92; clear hgA92 hatA92 hoA92 hCX92 hbA92)
              | (go_at_call 13; refine (frame_Count.calls kx AX92 cX92 x ((l0.length : Int) + (more.length : Int)) _ HCX92.out hcX92 KX.out).mono ?_; rintro e w8 ⟨rfl, hb8⟩; have HB78 := Lib.hid (HBA92.out.trans (hb8.mono HBA92.out.size)); clear hb8))
            have HF := Lib.hid (HBW7.out.trans (HB78.out.mono HBW7.out.size))
            refine ⟨by simp, .inl ⟨_, _, rfl, run_takeDeferred ((HF.out.block D hDW).trans HKD.out), ?_⟩⟩
            refine ⟨.bool true, ?_, rfl, ?_⟩
            · simp [results, Try.f7, go_sem]
            · exact (HBL.out.trans (HF.out.mono HBL.out.size)).trans (belowK_b (w := w) (Nat.le_refl _) _ D _ _ (by omega) ((HF.out.block D hDW).trans HKD.out) rfl rfl)
          case neg =>
            have qc : (cf == 0) = false := by simpa using hcf
            have HCF := Lib.hid hcf
            clear hcf
            go_wp2_with (first
              | (go_at_call 17; refine (embrasureref02_All.calls kl A1 c1 l1 more cf _ (Kd.C_below HR1.out (HBL.out.trans (HBC.out.mono HBL.out.size))) hc1 KL.out).mono ?_; rintro e w6 ⟨v6, rfl, hR6, hb6⟩; obtain ⟨A6, c6, hv6, _, _⟩ := Kd.S_reads hR6; subst hv6; have HBW6 := Lib.hid (HBC.out.trans (hb6.mono HBC.out.size)); clear hR6 hb6)
              | ((with_reducible refine gate_dst (N := 76) rfl ?_); (try (refine gate_guard (by rfl) ?_; dsimp only)); refine Kd.R_lit (Kd.int .u8) _ 5 ?hg76 (N := 76) ?hd76 (xs := ([] : List Int)) (inner := []) (ok := fun _ => True) (okp := fun _ => True) ?hr76 ?hp76 (fun _ hk => hk) trivial (Below.refl _ _) (Nat.le_refl _) (by simp) ?_; (case hd76 => rfl); (case hg76 => rfl); (case hr76 => first | (go_simp; done) | (go_simp; rfl)); (case hp76 => exact (Reps.none _ _)); intro vL76 wL76 hoL76 hbL76 hgL76 hnewL76; clear hgL76 hnewL76)
              | ((with_reducible refine gate_builtin (b := .append) (xs := #[.tmp 76, .tmp 77]) rfl ?_); (try (refine gate_guard (by rfl) ?_; dsimp only)); at_builtin; refine Kd.R_append_row (Value.int .u8) (0 : Int) (w0 := w6) w6.heap.size rfl (.tmp 76) (.tmp 77) 22 5 (.int .u8 0) 1 rfl Try.underlying22 info8 rfl (by omega) vL76 [] z Az z.length cz (fun _ => True) rfl rfl (fun _ _ => trivial) hoL76 (Kd.C_below HCzW.out (HBW6.out.trans (hbL76.mono HBW6.out.size))) hbL76 hbL76.size (by simp; omega) ?_; intro vA78 wA78 hoA78 hbA78 hgA78 hatA78; rw [List.nil_append] at hoA78; clear hgA78 hatA78)
              | ((with_reducible refine gate_builtin (b := .append) (xs := #[.tmp 78, .tmp 79]) rfl ?_); (try (refine gate_guard (by rfl) ?_; dsimp only)); at_builtin; refine Kd.R_append_row (Value.int .u8) (0 : Int) (w0 := w6) w6.heap.size rfl (.tmp 78) (.tmp 79) 22 5 (.int .u8 0) 1 rfl Try.underlying22 info8 rfl (by omega) vA78 z l1 A1 l1.length c1 (fun _ => True) rfl rfl (fun _ _ => trivial) hoA78 (Kd.C_below HR1.out ((HBL.out.trans (HBW6.out.mono HBL.out.size)).trans (hbA78.mono (HBL.out.trans (HBW6.out.mono HBL.out.size)).size))) hbA78 hbA78.size (by simp; omega) ?_; intro vA80 wA80 hoA80 hbA80 hgA80 hatA80; rw [HXE.out] at hoA80; obtain ⟨AX80, cX80, hvX80, hcX80, hCX80⟩ := Kd.R_reads hoA80; subst hvX80; have HCX80 := Lib.hid hCX80; have HBA80 := Lib.hid hbA80; clear hgA80 hatA80 hoA80 hCX80 hbA80)
              | (go_at_call 16; refine (KS.out AX80 cX80 _ HCX80.out hcX80).mono ?_; rintro e w7 ⟨v7, he7, hR7, hb7⟩; rw [HX.out] at he7 hR7; dsimp only at he7 hR7; subst he7; have HB67 := Lib.hid (HBA80.out.trans (hb7.mono HBA80.out.size)); have HBW7 := Lib.hid (HBW6.out.trans (HB67.out.mono HBW6.out.size)); obtain ⟨A7, c7, hv7, _, _⟩ := Kd.R_reads hR7; rw [if_neg HCF.out] at hv7; subst hv7; clear hR7 hb7)
              | ((with_reducible refine gate_dst (N := 88) rfl ?_); (try (refine gate_guard (by rfl) ?_; dsimp only)); refine Kd.R_lit (Kd.int .u8) _ 5 ?hg88 (N := 88) ?hd88 (xs := ([] : List Int)) (inner := []) (ok := fun _ => True) (okp := fun _ => True) ?hr88 ?hp88 (fun _ hk => hk) trivial (Below.refl _ _) (Nat.le_refl _) (by simp) ?_; (case hd88 => rfl); (case hg88 => rfl); (case hr88 => first | (go_simp; done) | (go_simp; rfl)); (case hp88 => exact (Reps.none _ _)); intro vL88 wL88 hoL88 hbL88 hgL88 hnewL88; clear hgL88 hnewL88)
              | ((with_reducible refine gate_builtin (b := .append) (xs := #[.tmp 88, .tmp 89]) rfl ?_); (try (refine gate_guard (by rfl) ?_; dsimp only)); at_builtin; refine Kd.R_append_row (Value.int .u8) (0 : Int) (w0 := w7) w7.heap.size rfl (.tmp 88) (.tmp 89) 22 5 (.int .u8 0) 1 rfl Try.underlying22 info8 rfl (by omega) vL88 [] z Az z.length cz (fun _ => True) rfl rfl (fun _ _ => trivial) hoL88 (Kd.C_below HCzW.out (HBW7.out.trans (hbL88.mono HBW7.out.size))) hbL88 hbL88.size (by simp; omega) ?_; intro vA90 wA90 hoA90 hbA90 hgA90 hatA90; rw [List.nil_append] at hoA90; clear hgA90 hatA90)
              | ((with_reducible refine gate_builtin (b := .append) (xs := #[.tmp 90, .tmp 91]) rfl ?_); (try (refine gate_guard (by rfl) ?_; dsimp only)); at_builtin; refine Kd.R_append_row (Value.int .u8) (0 : Int) (w0 := w7) w7.heap.size rfl (.tmp 90) (.tmp 91) 22 5 (.int .u8 0) 1 rfl Try.underlying22 info8 rfl (by omega) vA90 z l1 A1 l1.length c1 (fun _ => True) rfl rfl (fun _ _ => trivial) hoA90 (Kd.C_below HR1.out ((HBL.out.trans (HBW7.out.mono HBL.out.size)).trans (hbA90.mono (HBL.out.trans (HBW7.out.mono HBL.out.size)).size))) hbA90 hbA90.size (by simp; omega) ?_; intro vA92 wA92 hoA92 hbA92 hgA92 hatA92; rw [HXE.out] at hoA92; obtain ⟨AX92, cX92, hvX92, hcX92, hCX92⟩ := Kd.R_reads hoA92; subst hvX92; have HCX92 := Lib.hid hCX92; have HBA92 := Lib.hid hbA92; clear hgA92 hatA92 hoA92 hCX92 hbA92)
              | (go_at_call 13; refine (frame_Count.calls kx AX92 cX92 x ((l0.length : Int) + (more.length : Int)) _ HCX92.out hcX92 KX.out).mono ?_; rintro e w8 ⟨rfl, hb8⟩; have HB78 := Lib.hid (HBA92.out.trans (hb8.mono HBA92.out.size)); clear hb8))
            have HF := Lib.hid (HBW7.out.trans (HB78.out.mono HBW7.out.size))
            refine ⟨by simp, .inl ⟨_, _, rfl, run_takeDeferred ((HF.out.block D hDW).trans HKD.out), ?_⟩⟩
            refine ⟨.bool true, ?_, rfl, ?_⟩
            · simp [results, Try.f7, go_sem]
            · exact (HBL.out.trans (HF.out.mono HBL.out.size)).trans (belowK_b (w := w) (Nat.le_refl _) _ D _ _ (by omega) ((HF.out.block D hDW).trans HKD.out) rfl rfl)
      · intro a' W h
        exact h
theorem stops_row (A0 : Option Addr) (c0 : Nat) (l0 : List (List Int)) (stop : Int) (A1 : Option Addr) (c1 : Nat) (l1 : List Int) (w : World) (hr0 : (Kd.slice 5 (Kd.int .u8)).C w A0 l0.length l0) (hc0 : l0.length ≤ c0) (hy0 : l0.length * 24 ≤ 140737488351232) (hb0 : ∀ r ∈ l0, Bytes r) (hn : (Lit.int .u8 stop).wf = true)
    (hr1 : Kd.C (Kd.int .u8) w A1 l1.length l1) (hc1 : l1.length ≤ c1) (hy1 : l1.length * 1 ≤ 140737488351232) (hw1 : ∀ b ∈ l1, (Lit.int .u8 b).wf = true) :
    Calls Try.prog 7 #[.slice A0 l0.length c0, .int .u8 stop, .slice A1 l1.length c1] w fun e w' => e = .returned (.bool true) ∧ Below w.heap.size w w' := by
  have hb := wf_bd hn (lo := 0) (hi := 255) (by decide) (by decide)
  obtain ⟨ka, hka⟩ := awake_yes.rounds
  have Ka := Lib.hid hka
  clear hka
  have hbs : Below w.heap.size w (w.alloc (.cells #[.int .u8 stop] 5)) := (Below.refl _ _).alloc (Nat.le_refl _) _
  have HBS := Lib.hid hbs
  by_cases h0 : l0.length ≤ 60
  · by_cases h1 : l1.length ≤ 40
    · exact stops_in A0 c0 l0 stop A1 c1 l1 w hr0 hc0 hb0 h0 hb.1 hb.2 hr1 hc1 (fun b hb => wf_bd (hw1 b hb) (by decide) (by decide)) h1
    · have g0 : decide (60 < (l0.length : Int)) = false := decide_eq_false (by omega)
      have g1 : decide (40 < (l1.length : Int)) = true := decide_eq_true (by omega)
      clear hr0 hr1 hb0 hw1 hbs
      refine (callsIn_wide (n := 8)).1 ?_
      refine callsIn_of_wp_marks Try.func7 rfl trivial (wpIn_wide.2 ?_) rfl
      simp only [Try.ntmps7, List.size_toArray, List.length_cons, List.length_nil, Nat.reduceAdd, Nat.reduceSub, Array.replicate_succ, Array.replicate_zero, List.push_toArray, List.append_toArray, List.nil_append, List.cons_append]
      go_wp2_with (go_at_call 8; refine (embrasurelaw02_awake.calls ka true _ Ka.out).mono ?_; rintro e w1 ⟨rfl, hb1⟩)
      exact ⟨.bool true, by simp [results, Try.f7, go_sem], rfl, HBS.out.trans (hb1.mono HBS.out.size)⟩
  · have g0 : decide (60 < (l0.length : Int)) = true := decide_eq_true (by omega)
    clear hr0 hr1 hb0 hw1 hbs
    refine (callsIn_wide (n := 8)).1 ?_
    refine callsIn_of_wp_marks Try.func7 rfl trivial (wpIn_wide.2 ?_) rfl
    simp only [Try.ntmps7, List.size_toArray, List.length_cons, List.length_nil, Nat.reduceAdd, Nat.reduceSub, Array.replicate_succ, Array.replicate_zero, List.push_toArray, List.append_toArray, List.nil_append, List.cons_append]
    go_wp2_with (go_at_call 8; refine (embrasurelaw02_awake.calls ka true _ Ka.out).mono ?_; rintro e w1 ⟨rfl, hb1⟩)
    exact ⟨.bool true, by simp [results, Try.f7, go_sem], rfl, HBS.out.trans (hb1.mono HBS.out.size)⟩
end Go.Proofs.Ytcngadkcnnkimaa.Fr
