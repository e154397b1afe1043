/-
  addr: the document's Parse. Conditions: as the theorems state them.
-/
import Derived.Test.YtjbhcaifmgbpgaaDoorAm
import Derived.Test.YtjbhcaifmgbpgaaDoorAi
namespace Go.Proofs.YtjbhcaifmgbpgaaDoor.Ad
open Go Go.RowKit Go.Shelf Go.Proofs.YtjbhcaifmgbpgaaDoorW.PrintWords Go.Proofs.YtjbhcaifmgbpgaaDoorW.PrintLast Go.Proofs.YtjbhcaifmgbpgaaDoorW.PrintMore
set_option linter.unusedVariables false
set_option linter.unusedSimpArgs false
attribute [local go_sem] Oper.semAt_some
theorem skipF_in (s : Str) {at_ : Int} (word : Str) (h0 : -1 ≤ at_) (h1 : at_ ≤ s.length) : -1 ≤ skipF s at_ word ∧ skipF s at_ word ≤ s.length := by
  unfold skipF
  split
  · omega
  · rename_i h; rw [not_or, not_or] at h; omega
theorem runF_len (s : Str) (n : Nat) (hn : n ≤ s.length) : n + (runF s n).length ≤ s.length := by
  unfold runF
  rw [Int.toNat_natCast]
  have h1 : ((s.drop n).takeWhile (fun b => decide (isDig b))).length ≤ (s.drop n).length := (List.takeWhile_sublist _).length_le
  rw [List.length_drop] at h1
  omega
theorem takeF_in (s : Str) {at_ : Int} (h0 : -1 ≤ at_) (h1 : at_ ≤ s.length) : (0 ≤ (takeF s at_).1 ∧ (takeF s at_).1 ≤ 2147483647) ∧ -1 ≤ (takeF s at_).2 ∧ (takeF s at_).2 ≤ s.length := by
  unfold takeF
  split
  · exact ⟨by decide, by decide, by show (-1 : Int) ≤ _; omega⟩
  · rename_i h
    rw [not_or, not_or, not_or] at h
    obtain ⟨n, rfl⟩ : ∃ n : Nat, at_ = n := ⟨at_.toNat, by omega⟩
    have := runF_len s n (by omega)
    dsimp only
    omega
theorem u32_merge (a b : Int) : u32 (u32 a + u32 b) = (a + b) % 4294967296 := by unfold u32; omega
def scanH (s : Str) : Nat → Int × Int
  | 0 => (skipF s 0 ipW, 0)
  | i + 1 => ((takeF s (if i = 0 then (scanH s i).1 else skipF s (scanH s i).1 [46])).2, u32 (u32 ((scanH s i).2 * 256) + u32 (takeF s (if i = 0 then (scanH s i).1 else skipF s (scanH s i).1 [46])).1))
theorem scanH_succ (s : Str) (i : Nat) : scanH s (i + 1) = ((takeF s (if i = 0 then (scanH s i).1 else skipF s (scanH s i).1 [46])).2, u32 (u32 ((scanH s i).2 * 256) + u32 (takeF s (if i = 0 then (scanH s i).1 else skipF s (scanH s i).1 [46])).1)) := rfl
theorem scanH_in (s : Str) : ∀ i, (-1 ≤ (scanH s i).1 ∧ (scanH s i).1 ≤ s.length) ∧ U32 (scanH s i).2
  | 0 => ⟨skipF_in s ipW (by decide) (by omega), by show U32 0; unfold U32; omega⟩
  | i + 1 => by
    obtain ⟨⟨h1, h2⟩, _⟩ := scanH_in s i
    rw [scanH_succ]
    refine ⟨?_, by unfold U32 u32; dsimp only; omega⟩
    split
    · exact (takeF_in s h1 h2).2
    · have := skipF_in s [46] h1 h2
      exact (takeF_in s this.1 this.2).2
theorem scanF_parts (s : Str) : scanF s = (let t4 := takeF s (skipF s (scanH s 4).1 udW)
    let m := skipF s t4.2 p2W
    if 0 ≤ m then ((scanH s 4).2, t4.1, (takeF s m).1, decide (0 ≤ skipF s (takeF s m).2 ciW)) else ((scanH s 4).2, t4.1, 0, false)) := by
  have e : (scanH s 4).2 = u32 (u32 (u32 (u32 (u32 (u32 (u32 (u32 (takeF s (skipF s 0 ipW)).1) * 256) + u32 (takeF s (skipF s (takeF s (skipF s 0 ipW)).2 [46])).1) * 256) + u32 (takeF s (skipF s (takeF s (skipF s (takeF s (skipF s 0 ipW)).2 [46])).2 [46])).1) * 256) + u32 (takeF s (skipF s (takeF s (skipF s (takeF s (skipF s (takeF s (skipF s 0 ipW)).2 [46])).2 [46])).2 [46])).1) := by
    have z : u32 0 = 0 := rfl
    simp [scanH, z]
  have e2 : (scanH s 4).1 = (takeF s (skipF s (takeF s (skipF s (takeF s (skipF s (takeF s (skipF s 0 ipW)).2 [46])).2 [46])).2 [46])).2 := by
    simp [scanH]
  rw [e, e2]
  rfl
theorem parseR_ref (s : Str) : parseR s = if textP (scanF s) = s ∧ s ≠ [] then (scanF s, 0) else (zP, 3) := by
  unfold parseR
  rw [parse_ref]
  unfold refF
  by_cases h : textP (scanF s) = s ∧ s ≠ []
  · rw [if_pos h, if_pos h]
  · rw [if_neg h, if_neg h]
theorem refparse_results {V : World} {g : Nat} {q : PlaceP} {c : Int} (tmps : Array Value) (hq : PlAt V g q) (h2 : tmps[2]?.getD undef = .pointer (some ⟨g, 0, none⟩)) (h3 : tmps[3]?.getD undef = .int .i64 c) :
    (results Tryd.f15 tmps).run Tryd.prog V = .ok (.tuple #[placeV q, .int .i64 c]) V := by
  obtain ⟨r0, r1, r2, r3⟩ := hq.cells.1
  simp [results, Tryd.f15, go_sem, h2, h3, r0, r1, r2, r3, Result.andThen, placeV]
set_option maxRecDepth 100000 in
set_option maxHeartbeats 8000000 in
theorem refparse_calls (w : World) (s : Str) (hs : s.length ≤ 1000000) : Calls Tryd.prog 15 #[.string (mk s)] w (ParsePost w s) := by
  have HS := Lib.hid hs
  clear hs
  go_enter Tryd.func15, Tryd.ntmps15
  go_upto_region 2 with fail
  obtain ⟨P, hP⟩ : ∃ P, w.heap.size + 1 = P := ⟨_, rfl⟩
  obtain ⟨W0, hW0⟩ : ∃ W0, (w.alloc (.cells #[.int .u32 0, .int .i64 0, .int .i64 0, .bool false] 26)).alloc (.cells #[.int .u32 0, .int .i64 0, .int .i64 0, .bool false] 26) = W0 := ⟨_, rfl⟩
  have hb0 : Below w.heap.size w W0 := by rw [← hW0]; exact ((Below.refl _ _).alloc (Nat.le_refl _) _).alloc (by simp) _
  have hr0 : PlAt W0 w.heap.size zP := by rw [← hW0]; exact (Below.heap_alloc _ _ _ (by simp)).trans (new_cellsN _ _ _)
  have hp0 : PlAt W0 P zP := by
    rw [← hW0, ← hP]
    have h := World.alloc_heap_new (w.alloc (.cells #[.int .u32 0, .int .i64 0, .int .i64 0, .bool false] 26)) (.cells #[.int .u32 0, .int .i64 0, .int .i64 0, .bool false] 26)
    rw [World.size_alloc] at h
    exact h
  rw [hW0, hP]
  have HP := Lib.hid hP
  have HB0 := Lib.hid hb0
  have HR0 := Lib.hid hr0
  have HP0 := Lib.hid hp0
  clear hW0 hP hb0 hr0 hp0
  have KS : Hid (∀ (V : World) (word : Str) (a : Int), word.length ≤ 1000 → -1 ≤ a → a ≤ s.length → Calls Tryd.prog 30 #[.string (mk s), .int .i64 a, .string (mk word)] V fun e w' => e = .returned (.int .i64 (skipF s a word)) ∧ V = w') := Lib.hid (fun V word a h1 h2 h3 => skip_calls V s word a HS.out h1 h2 h3)
  have KT : Hid (∀ (V : World) (a : Int), -1 ≤ a → a ≤ s.length → Calls Tryd.prog 31 #[.string (mk s), .int .i64 a] V fun e w' => e = .returned (.tuple #[.int .i64 (takeF s a).1, .int .i64 (takeF s a).2]) ∧ V = w') := Lib.hid (fun V a h2 h3 => take_calls V s a HS.out h2 h3)
  go_upto_region 3 with (go_at_call 30; refine (KS.out W0 ipW 0 (by decide) (by decide) (by omega)).mono ?_; rintro e w1 ⟨rfl, rfl⟩)
  go_upto_region 4 with fail
  go_loopw [5, 6] (fun v5 v6 wr => ∃ i : Nat, v6 = .int .i64 i ∧ i ≤ 4 ∧ v5 = .int .i64 (scanH s i).1 ∧ Hid (PlAt wr P ((scanH s i).2, 0, 0, false)) ∧ Hid (PlAt wr w.heap.size zP) ∧ Hid (Below w.heap.size w wr)) (fun _ v6 _ => 4 - (intOf v6).toNat)
  case atStart => exact ⟨0, rfl, by decide, rfl, HP0, HR0, HB0⟩
  case round =>
    obtain ⟨i, rfl, hi, rfl, HPL, HRL, HBL⟩ := hrel
    obtain ⟨⟨ha, hb⟩, hu⟩ := scanH_in s i
    by_cases hlt : i < 4
    · have b1 : decide ((i : Int) < 4) = true := decide_eq_true (by omega)
      have b1' : decide (i < 4) = true := decide_eq_true hlt
      have hsu := scanH_succ s i
      obtain ⟨a, hA⟩ : ∃ a, (scanH s i).1 = a := ⟨_, rfl⟩
      obtain ⟨h, hH⟩ : ∃ h, (scanH s i).2 = h := ⟨_, rfl⟩
      rw [hA] at ha hb
      have hpl := HPL.out
      rw [hH] at hpl
      rw [hA, hH] at hsu
      rw [hA]
      obtain ⟨d0, d1, d2, d3⟩ := hpl.cells.1
      obtain ⟨z0, z1, z2, z3⟩ := hpl.cells.2
      have HPL2 := Lib.hid hpl
      have HSU := Lib.hid hsu
      clear hA hH hpl hsu hu
      have fin : ∀ (g : Int), PlAt (wr.setCell ⟨P, 0, none⟩ (.int .u32 g)) P (g, 0, 0, false) ∧ PlAt (wr.setCell ⟨P, 0, none⟩ (.int .u32 g)) w.heap.size zP ∧ Below w.heap.size w (wr.setCell ⟨P, 0, none⟩ (.int .u32 g)) := fun g =>
        ⟨set_cellsN 0 HPL2.out rfl, HRL.out.other (fun e => by have e : w.heap.size = P := e; have := HP.out; omega) _, HBL.out.setCell (p := ⟨P, 0, none⟩) (by have := HP.out; show w.heap.size ≤ P; omega) _⟩
      have FIN := Lib.hid fin
      clear fin
      by_cases h0 : i = 0
      · have b2 : decide ((i : Int) > 0) = false := decide_eq_false (by omega)
        have b2' : decide (0 < i) = false := decide_eq_false (by omega)
        have b2'' : decide ((0 : Int) < i) = false := decide_eq_false (by omega)
        have hsu := HSU.out
        rw [if_pos h0] at hsu
        have HSU2 := Lib.hid hsu
        have HI := Lib.hid h0
        clear hsu h0
        go_wp2_with (go_at_call 31; refine (KT.out wr a ha hb).mono ?_; rintro e w1 ⟨rfl, rfl⟩)
        go_roundw
        case rel => exact ⟨i + 1, by go_num, by omega, by rw [HSU2.out], Lib.hid (by rw [HSU2.out]; dsimp only; rw [u32_merge]; exact (FIN.out _).1), Lib.hid (FIN.out _).2.1, Lib.hid (FIN.out _).2.2⟩
        case measure => simp [intOf]; omega
      · have b2 : decide ((i : Int) > 0) = true := decide_eq_true (by omega)
        have b2' : decide (0 < i) = true := decide_eq_true (by omega)
        have b2'' : decide ((0 : Int) < i) = true := decide_eq_true (by omega)
        have hsu := HSU.out
        rw [if_neg h0] at hsu
        have HSU2 := Lib.hid hsu
        have hk := skipF_in s [46] ha hb
        have HI := Lib.hid h0
        clear hsu h0
        go_wp2_with (first | (go_at_call 30; refine (KS.out wr [46] a (by decide) ha hb).mono ?_; rintro e w1 ⟨rfl, rfl⟩) | (go_at_call 31; refine (KT.out wr (skipF s a [46]) hk.1 hk.2).mono ?_; rintro e w1 ⟨rfl, rfl⟩))
        go_roundw
        case rel => exact ⟨i + 1, by go_num, by omega, by rw [HSU2.out], Lib.hid (by rw [HSU2.out]; dsimp only; rw [u32_merge]; exact (FIN.out _).1), Lib.hid (FIN.out _).2.1, Lib.hid (FIN.out _).2.2⟩
        case measure => simp [intOf]; omega
    · have b1 : decide ((i : Int) < 4) = false := decide_eq_false (by omega)
      obtain rfl : i = 4 := by omega
      have hsc := scanF_parts s
      obtain ⟨a, hA⟩ : ∃ a, (scanH s 4).1 = a := ⟨_, rfl⟩
      obtain ⟨h, hH⟩ : ∃ h, (scanH s 4).2 = h := ⟨_, rfl⟩
      have hpl := HPL.out
      rw [hH] at hpl hsc hu
      rw [hA] at ha hb hsc ⊢
      dsimp only at hsc
      have hk := skipF_in s udW ha hb
      obtain ⟨b, hB⟩ : ∃ b, skipF s a udW = b := ⟨_, rfl⟩
      rw [hB] at hk hsc
      have ht := takeF_in s hk.1 hk.2
      obtain ⟨⟨p, c⟩, hT⟩ : ∃ t, takeF s b = t := ⟨_, rfl⟩
      rw [hT] at ht hsc
      dsimp only at ht hsc
      have hk2 := skipF_in s p2W ht.2.1 ht.2.2
      obtain ⟨m, hM⟩ : ∃ m, skipF s c p2W = m := ⟨_, rfl⟩
      rw [hM] at hk2 hsc
      have K1 : Hid (Calls Tryd.prog 30 #[.string (mk s), .int .i64 a, .string (mk udW)] wr fun e w' => e = .returned (.int .i64 b) ∧ wr = w') := Lib.hid (by have := KS.out wr udW a (by decide) ha hb; rwa [hB] at this)
      have K2 : Hid (Calls Tryd.prog 31 #[.string (mk s), .int .i64 b] wr fun e w' => e = .returned (.tuple #[.int .i64 p, .int .i64 c]) ∧ wr = w') := Lib.hid (by have := KT.out wr b hk.1 hk.2; rwa [hT] at this)
      have K3 : Hid (∀ V, Calls Tryd.prog 30 #[.string (mk s), .int .i64 c, .string (mk p2W)] V fun e w' => e = .returned (.int .i64 m) ∧ V = w') := Lib.hid (fun V => by have := KS.out V p2W c (by decide) ht.2.1 ht.2.2; rwa [hM] at this)
      have HPL2 := Lib.hid hpl
      have HSC := Lib.hid hsc
      have HU := Lib.hid hu
      have HK2 := Lib.hid hk2
      obtain ⟨d0, d1, d2, d3⟩ := hpl.cells.1
      obtain ⟨z0, z1, z2, z3⟩ := hpl.cells.2
      clear hA hH hpl hsc hB hT hM hu hk ht hk2 ha hb hi hlt
      go_upto_region 12 with (go_at_call 30; refine K1.out.mono ?_; rintro e w1 ⟨rfl, rfl⟩)
      go_upto_region 13 with (go_at_call 31; refine K2.out.mono ?_; rintro e w1 ⟨rfl, rfl⟩)
      obtain ⟨V, hV⟩ : ∃ V, wr.setCell ⟨P, 1, none⟩ (.int .i64 p) = V := ⟨_, rfl⟩
      have hplV : PlAt V P (h, p, 0, false) := by rw [← hV]; exact set_cellsN 1 HPL2.out rfl
      have hrV : PlAt V w.heap.size zP := by rw [← hV]; exact HRL.out.other (fun e => by have e : w.heap.size = P := e; have := HP.out; omega) _
      have hbV : Below w.heap.size w V := by rw [← hV]; exact HBL.out.setCell (p := ⟨P, 1, none⟩) (by have := HP.out; show w.heap.size ≤ P; omega) _
      rw [hV]
      have HPV := Lib.hid hplV
      have HRV := Lib.hid hrV
      have HBV := Lib.hid hbV
      clear hplV hrV hbV hV d0 d1 d2 d3 z0 z1 z2 z3 HPL2 HRL HBL HPL K1 K2
      go_upto_region 14 with (go_at_call 30; refine (K3.out V).mono ?_; rintro e w1 ⟨rfl, rfl⟩)
      go_upto_if 52 with fail
      go_cut [9] from 10 (fun s9 wx => PlAt wx P (scanF s) ∧ PlAt wx w.heap.size zP ∧ Below w.heap.size w wx)
      case first =>
        obtain ⟨d0, d1, d2, d3⟩ := HPV.out.cells.1
        obtain ⟨z0, z1, z2, z3⟩ := HPV.out.cells.2
        by_cases hm : 0 ≤ m
        · have b1 : decide (m ≥ 0) = true := decide_eq_true hm
          have b2 : decide (0 ≤ m) = true := decide_eq_true hm
          first | rw [b1] | rw [b2]
          have hk2 := HK2.out
          have ht := takeF_in s hk2.1 hk2.2
          have hsc := HSC.out
          rw [if_pos hm] at hsc
          obtain ⟨⟨id, c2⟩, hT⟩ : ∃ t, takeF s m = t := ⟨_, rfl⟩
          rw [hT] at ht hsc
          dsimp only at ht hsc
          obtain ⟨k, hK⟩ : ∃ k, skipF s c2 ciW = k := ⟨_, rfl⟩
          rw [hK] at hsc
          have K4 : Hid (Calls Tryd.prog 31 #[.string (mk s), .int .i64 m] V fun e w' => e = .returned (.tuple #[.int .i64 id, .int .i64 c2]) ∧ V = w') := Lib.hid (by have := KT.out V m hk2.1 hk2.2; rwa [hT] at this)
          have K5 : Hid (∀ X, Calls Tryd.prog 30 #[.string (mk s), .int .i64 c2, .string (mk ciW)] X fun e w' => e = .returned (.int .i64 k) ∧ X = w') := Lib.hid (fun X => by have := KS.out X ciW c2 (by decide) ht.2.1 ht.2.2; rwa [hK] at this)
          have HSC2 := Lib.hid hsc
          clear hsc hT hK ht hk2 hm
          go_upto_region 16 with (go_at_call 31; refine K4.out.mono ?_; rintro e w1 ⟨rfl, rfl⟩)
          obtain ⟨X, hX⟩ : ∃ X, V.setCell ⟨P, 2, none⟩ (.int .i64 id) = X := ⟨_, rfl⟩
          have hplX : PlAt X P (h, p, id, false) := by rw [← hX]; exact set_cellsN 2 HPV.out rfl
          have hrX : PlAt X w.heap.size zP := by rw [← hX]; exact HRV.out.other (fun e => by have e : w.heap.size = P := e; have := HP.out; omega) _
          have hbX : Below w.heap.size w X := by rw [← hX]; exact HBV.out.setCell (p := ⟨P, 2, none⟩) (by have := HP.out; show w.heap.size ≤ P; omega) _
          have hplY : PlAt (X.setCell ⟨P, 3, none⟩ (.bool true)) P (h, p, id, true) := set_cellsN 3 hplX rfl
          have hrY : PlAt (X.setCell ⟨P, 3, none⟩ (.bool true)) w.heap.size zP := hrX.other (fun e => by have e : w.heap.size = P := e; have := HP.out; omega) _
          have hbY : Below w.heap.size w (X.setCell ⟨P, 3, none⟩ (.bool true)) := hbX.setCell (p := ⟨P, 3, none⟩) (by have := HP.out; show w.heap.size ≤ P; omega) _
          rw [hX]
          clear d0 d1 d2 d3 z0 z1 z2 z3
          obtain ⟨d0, d1, d2, d3⟩ := hplX.cells.1
          obtain ⟨z0, z1, z2, z3⟩ := hplX.cells.2
          have HX := Lib.hid (And.intro hplX (And.intro hrX hbX))
          have HY := Lib.hid (And.intro hplY (And.intro hrY hbY))
          clear hplX hrX hbX hplY hrY hbY hX
          by_cases hk : 0 ≤ k
          · have c1 : decide (k ≥ 0) = true := decide_eq_true hk
            have c2 : decide (0 ≤ k) = true := decide_eq_true hk
            have hsc := HSC2.out
            rw [c2] at hsc
            have HSC3 := Lib.hid hsc
            clear hk hsc
            go_wp2_with (go_at_call 30; refine (K5.out X).mono ?_; rintro e w1 ⟨rfl, rfl⟩)
            go_meet
            case rel => rw [HSC3.out]; exact HY.out
          · have c1 : decide (k ≥ 0) = false := decide_eq_false hk
            have c2 : decide (0 ≤ k) = false := decide_eq_false hk
            have hsc := HSC2.out
            rw [c2] at hsc
            have HSC3 := Lib.hid hsc
            clear hk hsc
            go_wp2_with (go_at_call 30; refine (K5.out X).mono ?_; rintro e w1 ⟨rfl, rfl⟩)
            go_meet
            case rel => rw [HSC3.out]; exact HX.out
        · have b1 : decide (m ≥ 0) = false := decide_eq_false hm
          have b2 : decide (0 ≤ m) = false := decide_eq_false hm
          first | rw [b1] | rw [b2]
          have hsc := HSC.out
          rw [if_neg hm] at hsc
          have HSC3 := Lib.hid hsc
          clear hsc hm
          go_wp2
          go_meet
          case rel => rw [HSC3.out]; exact ⟨HPV.out, HRV.out, HBV.out⟩
      case rest =>
        obtain ⟨hpl, hr, hb⟩ := hcut
        have hu2 := scan_u32 s
        have hpr := parseR_ref s
        obtain ⟨⟨H, Q, I, B⟩, hq⟩ : ∃ q, scanF s = q := ⟨_, rfl⟩
        rw [hq] at hpl hu2 hpr
        have KX := Lib.hid (reftext_calls wc H Q I B hu2)
        obtain ⟨T, hT⟩ : ∃ T, textP (H, Q, I, B) = T := ⟨_, rfl⟩
        rw [hT] at KX hpr
        obtain ⟨d0, d1, d2, d3⟩ := hpl.cells.1
        obtain ⟨y0, y1, y2, y3⟩ := hr.cells.1
        obtain ⟨z0, z1, z2, z3⟩ := hr.cells.2
        have HPR := Lib.hid hpr
        have YPL := Lib.hid hpl
        have YR := Lib.hid hr
        have YB := Lib.hid hb
        have seq := str_eq T s
        have sem : (mk s).toList.isEmpty = decide (s = []) := by rw [Go.ByteArray.toList_eq, mk_data]; cases s <;> simp
        clear hpl hr hb hpr hq hT hu2
        by_cases hts : T = s ∧ s ≠ []
        · have q1 : ((mk T).toList == (mk s).toList) = true := by rw [seq]; exact decide_eq_true hts.1
          have q2 : (mk s).toList.isEmpty = false := by rw [sem]; exact decide_eq_false hts.2
          have hpr := HPR.out
          rw [if_pos hts] at hpr
          have HPR2 := Lib.hid hpr
          clear hpr seq sem hts
          go_wp2_with (go_at_call 11; refine KX.out.mono ?_; rintro e w6 ⟨rfl, hb6⟩; have HB6 := Lib.hid hb6; have h6a := YR.out.below hb6; have h6b := YPL.out.below hb6; obtain ⟨r0, r1, r2, r3⟩ := h6b.cells.1; obtain ⟨y0, y1, y2, y3⟩ := h6a.cells.1; obtain ⟨z0, z1, z2, z3⟩ := h6a.cells.2; clear hb6 h6a h6b)
          have hq : PlAt (put4 w6 w.heap.size (H, Q, I, B)) w.heap.size (H, Q, I, B) := (YR.out.below HB6.out).put _
          have hbq : Below w.heap.size w (put4 w6 w.heap.size (H, Q, I, B)) := put4_below (YB.out.trans (HB6.out.mono YB.out.size)) (Nat.le_refl _) _
          unfold put4 at hq hbq
          dsimp only at hq hbq
          exact bodyPost_ret (refparse_results _ hq rfl rfl) rfl ⟨by rw [HPR2.out], hbq⟩
        · have hpr := HPR.out
          rw [if_neg hts] at hpr
          have HPR2 := Lib.hid hpr
          have bad : ∀ w6 : World, Below wc.heap.size wc w6 → PlAt (put4 w6 w.heap.size zP) w.heap.size zP ∧ Below w.heap.size w (put4 w6 w.heap.size zP) := fun w6 hb6 => ⟨(YR.out.below hb6).put _, put4_below (YB.out.trans (hb6.mono YB.out.size)) (Nat.le_refl _) _⟩
          have BAD := Lib.hid bad
          clear bad
          by_cases ht : T = s
          · have q1 : ((mk T).toList == (mk s).toList) = true := by rw [seq]; exact decide_eq_true ht
            have q2 : (mk s).toList.isEmpty = true := by rw [sem]; exact decide_eq_true (Decidable.byContradiction (fun h => hts ⟨ht, h⟩))
            clear hpr seq sem hts ht
            go_wp2_with (go_at_call 11; refine KX.out.mono ?_; rintro e w6 ⟨rfl, hb6⟩; have HB6 := Lib.hid hb6; have h6a := YR.out.below hb6; obtain ⟨y0, y1, y2, y3⟩ := h6a.cells.1; obtain ⟨z0, z1, z2, z3⟩ := h6a.cells.2; clear hb6 h6a)
            have hB := BAD.out w6 HB6.out
            unfold put4 at hB
            dsimp only [zP] at hB
            exact bodyPost_ret (refparse_results _ hB.1 rfl rfl) rfl ⟨by rw [HPR2.out]; rfl, hB.2⟩
          · have q1 : ((mk T).toList == (mk s).toList) = false := by rw [seq]; exact decide_eq_false ht
            clear hpr seq sem hts ht
            go_wp2_with (go_at_call 11; refine KX.out.mono ?_; rintro e w6 ⟨rfl, hb6⟩; have HB6 := Lib.hid hb6; have h6a := YR.out.below hb6; obtain ⟨y0, y1, y2, y3⟩ := h6a.cells.1; obtain ⟨z0, z1, z2, z3⟩ := h6a.cells.2; clear hb6 h6a)
            have hB := BAD.out w6 HB6.out
            unfold put4 at hB
            dsimp only [zP] at hB
            exact bodyPost_ret (refparse_results _ hB.1 rfl rfl) rfl ⟨by rw [HPR2.out]; rfl, hB.2⟩
end Go.Proofs.YtjbhcaifmgbpgaaDoor.Ad
