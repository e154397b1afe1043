/-
  addr: Parse: the place of a text. Conditions: as the theorems state them.
-/
import Derived.Test.YtjbhcaifmgbpgaaDoorAg
namespace Go.Proofs.YtjbhcaifmgbpgaaDoor.Ad
open Go Go.RowKit Go.Shelf Go.Proofs.YtjbhcaifmgbpgaaDoorW.PrintWords Go.Proofs.YtjbhcaifmgbpgaaDoorW.PrintLast Go.Proofs.YtjbhcaifmgbpgaaDoorW.PrintMore
set_option linter.unusedVariables false
set_option linter.unusedSimpArgs false
attribute [local go_sem] Oper.semAt_some
def PlAt (w : World) (g : Nat) (q : PlaceP) : Prop := w.heap[g]? = some (.cells #[.int .u32 q.1, .int .i64 q.2.1, .int .i64 q.2.2.1, .bool q.2.2.2] 26 (0, 0))
theorem PlAt.below {w w' : World} {g : Nat} {q : PlaceP} (h : PlAt w g q) (hb : Below w.heap.size w w') : PlAt w' g q := (hb.block g (Array.getElem?_eq_some_iff.1 h).1).trans h
theorem PlAt.cells {w : World} {g : Nat} {q : PlaceP} (h : PlAt w g q) : (w.cell? ⟨g, 0, none⟩ = some (.int .u32 q.1) ∧ w.cell? ⟨g, 1, none⟩ = some (.int .i64 q.2.1) ∧ w.cell? ⟨g, 2, none⟩ = some (.int .i64 q.2.2.1) ∧ w.cell? ⟨g, 3, none⟩ = some (.bool q.2.2.2)) ∧
    (w.frozen? ⟨g, 0, none⟩ = false ∧ w.frozen? ⟨g, 1, none⟩ = false ∧ w.frozen? ⟨g, 2, none⟩ = false ∧ w.frozen? ⟨g, 3, none⟩ = false) :=
  ⟨⟨cell_cellsN h 0 (by simp), cell_cellsN h 1 (by simp), cell_cellsN h 2 (by simp), cell_cellsN h 3 (by simp)⟩, frozen_cellsN h 0, frozen_cellsN h 1, frozen_cellsN h 2, frozen_cellsN h 3⟩
theorem PlAt.other {w : World} {g : Nat} {q : PlaceP} (h : PlAt w g q) {p : Addr} (hp : g ≠ p.block) (v : Value) : PlAt (w.setCell p v) g q := (Below.heap_setCell _ _ _ _ hp).trans h
def put4 (w : World) (g : Nat) (q : PlaceP) : World := (((w.setCell ⟨g, 0, none⟩ (.int .u32 q.1)).setCell ⟨g, 1, none⟩ (.int .i64 q.2.1)).setCell ⟨g, 2, none⟩ (.int .i64 q.2.2.1)).setCell ⟨g, 3, none⟩ (.bool q.2.2.2)
theorem PlAt.put {w : World} {g : Nat} {q0 : PlaceP} (h : PlAt w g q0) (q : PlaceP) : PlAt (put4 w g q) g q :=
  set_cellsN 3 (set_cellsN 2 (set_cellsN 1 (set_cellsN 0 h rfl) rfl) rfl) rfl
theorem put4_below {w0 w : World} {B g : Nat} (hb : Below B w0 w) (hg : B ≤ g) (q : PlaceP) : Below B w0 (put4 w g q) :=
  (((hb.setCell (p := ⟨g, 0, none⟩) hg _).setCell (p := ⟨g, 1, none⟩) hg _).setCell (p := ⟨g, 2, none⟩) hg _).setCell (p := ⟨g, 3, none⟩) hg _
def zP : PlaceP := (0, 0, 0, false)
def parseR (s : Str) : PlaceP × Int := match parseF s with | some q => (q, 0) | none => (zP, 3)
theorem mem_piece : ∀ (ws : List Str) (x : Str), x ∈ ws → x.length ≤ (join1 47 ws).length
  | [], x, h => by cases h
  | [p], x, h => by rw [List.mem_singleton.1 h]; exact Nat.le_refl _
  | p :: q :: r, x, h => by
    rw [join1_cons 47 p (by simp), List.length_append, List.length_cons]
    rcases List.mem_cons.1 h with rfl | h
    · omega
    · have := mem_piece (q :: r) x h; omega
theorem split_piece {s x : Str} {i : Nat} (h : (split1 47 s)[i]? = some x) : x.length ≤ s.length := by
  have := mem_piece _ x (List.mem_of_getElem? h)
  rwa [join_split] at this
def PiecesAt (w : World) (g : Nat) (ws : List Str) : Prop := w.heap[g]? = some (.cells (ws.map (fun p => Value.string (mk p))).toArray 9 (0, 0))
theorem PiecesAt.below {w w' : World} {g : Nat} {ws : List Str} (h : PiecesAt w g ws) (hb : Below w.heap.size w w') : PiecesAt w' g ws := (hb.block g (Array.getElem?_eq_some_iff.1 h).1).trans h
theorem PiecesAt.cell {w : World} {g : Nat} {ws : List Str} (h : PiecesAt w g ws) (i : Nat) (p : Str) (hp : ws[i]? = some p) : w.cell? ⟨g, i, none⟩ = some (.string (mk p)) := by
  obtain ⟨hi, he⟩ := List.getElem?_eq_some_iff.1 hp
  rw [cell_cellsN h i (by simpa using hi)]
  simp [he]
theorem parseF_short {s : Str} (h : (split1 47 s).length < 5 ∨ 8 < (split1 47 s).length) : parseR s = (zP, 3) := by
  unfold parseR parseF parseW
  split
  · rename_i q hq
    split at hq
    · rename_i e; rw [e] at h; simp at h
    · rename_i e; rw [e] at h; simp at h
    · rename_i e; rw [e] at h; simp at h
    · cases hq
  · rfl
theorem parseW_head {a b c d e : Str} {rest : List Str} (h : a ≠ [] ∨ b ≠ ip4W ∨ d ≠ udpW) : parseW (a :: b :: c :: d :: e :: rest) = none := by
  match rest with
  | [] => show parse5 a b c d e = none; unfold parse5; exact if_neg (by rintro ⟨h1, h2, h3, _⟩; simp [h1, h2, h3] at h)
  | [f] => rfl
  | [f, g] => show parse7 a b c d e f g = none; unfold parse7; exact if_neg (by rintro ⟨h1, h2, h3, _⟩; simp [h1, h2, h3] at h)
  | [f, g, k] => show parse8 a b c d e f g k = none; unfold parse8; exact if_neg (by rintro ⟨h1, h2, h3, _⟩; simp [h1, h2, h3] at h)
  | f :: g :: k :: l :: r => rfl
theorem parseR_none {s : Str} (h : parseF s = none) : parseR s = (zP, 3) := by unfold parseR; rw [h]
theorem parseR_some {s : Str} {q : PlaceP} (h : parseF s = some q) : parseR s = (q, 0) := by unfold parseR; rw [h]
def okF (c : Str) (rest : List Str) : Bool := match rest with
  | [] => hostOk c
  | [_] => false
  | f :: g :: _ => hostOk c && (decide (f = p2pW) && (numOk g 2147483647 && decide (0 < (val g : Int))))
def okG (c : Str) (rest : List Str) : Bool := match rest with
  | [_, _, k] => okF c rest && decide (k = cirW)
  | _ => okF c rest
def idF : List Str → Int
  | _ :: g :: _ => (val g : Int)
  | _ => 0
theorem parse_fin {c f : Str} {rest : List Str} {h p id : Int} (hr : rest.length ≤ 3) (hh : hostOk c = true → h = hostV (split1 46 c)) (hp : numOk f 65535 = true → p = (val f : Int)) (hid : okF c rest = true → id = idF rest) :
    parseW ([] :: ip4W :: c :: udpW :: f :: rest) = if (okG c rest && (numOk f 65535 && mayP (h, p, id, decide (7 < rest.length + 5)))) = true then some (h, p, id, decide (7 < rest.length + 5)) else none := by
  match rest, hr with
  | [], _ =>
    show parse5 [] ip4W c udpW f = _
    unfold parse5
    cases h1 : hostOk c with
    | false => simp [okG, okF, h1]
    | true =>
      cases h2 : numOk f 65535 with
      | false => simp [okG, okF, h1]
      | true =>
        have e3 := hid (by simp [okF, h1])
        simp [okG, okF, h1, ← hh h1, ← hp h2, e3, idF]
  | [g], _ => show none = _; simp [okG, okF]
  | [g, k], _ =>
    show parse7 [] ip4W c udpW f g k = _
    unfold parse7
    cases h0 : okF c [g, k] with
    | false =>
      simp only [okG, h0, Bool.false_and, Bool.false_eq_true, if_false]
      refine if_neg ?_
      rintro ⟨_, _, _, q1, _, q2, q3, q4, _⟩
      have e : okF c [g, k] = true := by simp [okF, q1, q2, q3]; omega
      rw [h0] at e; cases e
    | true =>
      have e3 := hid h0
      have h0' := h0
      simp [okF] at h0
      obtain ⟨q1, q2, q3, q4⟩ := h0
      cases h2 : numOk f 65535 with
      | false => simp [okG, h0', h2]
      | true =>
        have e3q : id = (val k : Int) := e3
        subst q2
        subst e3q
        simp [okG, h0', q1, q3, q4, ← hh q1, ← hp h2]
  | [g, k, z], _ =>
    show parse8 [] ip4W c udpW f g k z = _
    unfold parse8
    cases h0 : okF c [g, k, z] with
    | false =>
      simp only [okG, h0, Bool.false_and, Bool.false_eq_true, if_false]
      refine if_neg ?_
      rintro ⟨_, _, _, q1, _, q2, q3, q4, _⟩
      have e : okF c [g, k, z] = true := by simp [okF, q1, q2, q3]; omega
      rw [h0] at e; cases e
    | true =>
      have e3 := hid h0
      have h0' := h0
      simp [okF] at h0
      obtain ⟨q1, q2, q3, q4⟩ := h0
      cases h2 : numOk f 65535 with
      | false => simp [okG, h0', h2]
      | true =>
        have e3q : id = (val k : Int) := e3
        subst q2
        subst e3q
        simp [okG, h0', q1, q3, q4, ← hh q1, ← hp h2]
  | _ :: _ :: _ :: _ :: _, h => simp at h
def ParsePost (w : World) (s : Str) (e : Ending) (w' : World) : Prop := e = .returned (.tuple #[placeV (parseR s).1, .int .i64 (parseR s).2]) ∧ Below w.heap.size w w'
theorem str_eq (a b : Str) : ((mk a).toList == (mk b).toList) = decide (a = b) := by
  rw [Go.ByteArray.toList_eq, Go.ByteArray.toList_eq, mk_data, mk_data]
  by_cases h : a = b
  · simp [h]
  · rw [decide_eq_false h, beq_eq_false_iff_ne]; exact h
theorem parse_results {V : World} {g : Nat} {q : PlaceP} {c : Int} (tmps : Array Value) (hq : PlAt V g q) (h2 : tmps[2]?.getD undef = .pointer (some ⟨g, 0, none⟩)) (h3 : tmps[3]?.getD undef = .int .i64 c) :
    (results Tryd.f14 tmps).run Tryd.prog V = .ok (.tuple #[placeV q, .int .i64 c]) V := by
  obtain ⟨r0, r1, r2, r3⟩ := hq.cells.1
  simp [results, Tryd.f14, go_sem, h2, h3, r0, r1, r2, r3, Result.andThen, placeV]
set_option maxRecDepth 100000 in
set_option maxHeartbeats 8000000 in
theorem parse_calls (w : World) (hE : Env w) (s : ByteArray) (hs : s.size ≤ 1000000) : Calls Tryd.prog 14 #[.string s] w (ParsePost w s.data.toList) := by
  have HENV := Lib.hid hE
  have HS := Lib.hid hs
  clear hE hs
  go_enter Tryd.func14, Tryd.ntmps14
  go_upto_region 1 with fail
  obtain ⟨W0, hW0⟩ : ∃ W0, w.alloc (.cells #[.int .u32 0, .int .i64 0, .int .i64 0, .bool false] 26) = W0 := ⟨_, rfl⟩
  have hb0 : Below w.heap.size w W0 := by rw [← hW0]; exact (Below.refl _ _).alloc (Nat.le_refl _) _
  have hR0 : PlAt W0 w.heap.size zP := by rw [← hW0]; exact new_cellsN _ _ _
  have hs0 : W0.heap.size = w.heap.size + 1 := by rw [← hW0]; simp
  have KS := Lib.hid (split_calls W0 (HENV.out.below hb0) s HS.out)
  rw [hW0]
  have HB0 := Lib.hid hb0
  have HR0 := Lib.hid hR0
  have HS0 := Lib.hid hs0
  clear hW0 hb0 hR0 hs0
  obtain ⟨ws, hws⟩ : ∃ ws, split1 47 s.data.toList = ws := ⟨_, rfl⟩
  rw [hws] at KS
  obtain ⟨n, hn⟩ : ∃ n, ws.length = n := ⟨_, rfl⟩
  rw [hn] at KS
  have HWS := Lib.hid hws
  have HN := Lib.hid hn
  have BAD := Lib.hid (fun (h : n < 5 ∨ 8 < n) => parseF_short (s := s.data.toList) (by rw [hws, hn]; exact h))
  clear hws hn
  go_upto_region 2 with (go_at_call 27; refine KS.out.mono ?_; rintro e w1 ⟨rfl, hp1, hb1⟩; have HP1 := Lib.hid (show PiecesAt w1 W0.heap.size ws from hp1); have HB1 := Lib.hid (HB0.out.trans (hb1.mono HB0.out.size)); have HR1 := Lib.hid (HR0.out.below hb1); clear hp1 hb1)
  obtain ⟨r0, r1, r2, r3⟩ := HR1.out.cells.1
  obtain ⟨z0, z1, z2, z3⟩ := HR1.out.cells.2
  by_cases h5 : n < 5
  · have b1 : decide ((n : Int) < 5) = true := decide_eq_true (by omega)
    have H5 := Lib.hid h5
    clear h5
    go_wp2
    obtain ⟨V, hV⟩ : ∃ V, put4 w1 w.heap.size zP = V := ⟨_, rfl⟩
    have hq : PlAt V w.heap.size zP := by rw [← hV]; exact HR1.out.put _
    have hbv : Below w.heap.size w V := by rw [← hV]; exact put4_below HB1.out (Nat.le_refl _) _
    unfold put4 at hV
    dsimp only [zP] at hV
    rw [hV]
    exact bodyPost_ret (parse_results _ hq rfl rfl) rfl ⟨by rw [BAD.out (.inl H5.out)], hbv⟩
  · by_cases h8 : 8 < n
    · have b1 : decide ((n : Int) < 5) = false := decide_eq_false (by omega)
      have b2 : decide ((n : Int) > 8) = true := decide_eq_true (by omega)
      have H8 := Lib.hid h8
      clear h5 h8
      go_wp2
      obtain ⟨V, hV⟩ : ∃ V, put4 w1 w.heap.size zP = V := ⟨_, rfl⟩
      have hq : PlAt V w.heap.size zP := by rw [← hV]; exact HR1.out.put _
      have hbv : Below w.heap.size w V := by rw [← hV]; exact put4_below HB1.out (Nat.le_refl _) _
      unfold put4 at hV
      dsimp only [zP] at hV
      rw [hV]
      exact bodyPost_ret (parse_results _ hq rfl rfl) rfl ⟨by rw [BAD.out (.inr H8.out)], hbv⟩
    · have b1 : decide ((n : Int) < 5) = false := decide_eq_false (by omega)
      have b2 : decide ((n : Int) > 8) = false := decide_eq_false (by omega)
      have hn := HN.out
      obtain ⟨a, b, c, d, f, rest, rfl⟩ : ∃ a b c d f rest, ws = a :: b :: c :: d :: f :: rest := by
        match ws, hn with
        | a :: b :: c :: d :: f :: rest, _ => exact ⟨a, b, c, d, f, rest, rfl⟩
        | [], h => simp at h; omega
        | [_], h => simp at h; omega
        | [_, _], h => simp at h; omega
        | [_, _, _], h => simp at h; omega
        | [_, _, _, _], h => simp at h; omega
      have p0 := HP1.out.cell 0 a rfl
      have p1 := HP1.out.cell 1 b rfl
      have p3 := HP1.out.cell 3 d rfl
      have HEAD := Lib.hid (fun (h : a ≠ [] ∨ b ≠ ip4W ∨ d ≠ udpW) => parseR_none (s := s.data.toList) (by unfold parseF; rw [HWS.out]; exact parseW_head h))
      by_cases ha : a = []
      · have s1 : (mk a).toList.isEmpty = true := by rw [Go.ByteArray.toList_eq, mk_data, ha]; rfl
        have HA := Lib.hid ha
        clear ha
        by_cases hb : b = ip4W
        · have s2 : ((mk b).toList == [105, 112, 52]) = true := by rw [Go.ByteArray.toList_eq, mk_data, hb]; rfl
          have HB := Lib.hid hb
          clear hb
          by_cases hd : d = udpW
          · have s3 : ((mk d).toList == [117, 100, 112]) = true := by rw [Go.ByteArray.toList_eq, mk_data, hd]; rfl
            have HD := Lib.hid hd
            clear hd
            go_upto_region 5 with fail
            obtain ⟨W2, hW2⟩ : ∃ W2, w1.alloc (.cells #[.int .u32 0, .int .i64 0, .int .i64 0, .bool false] 26) = W2 := ⟨_, rfl⟩
            have hb2 : Below w1.heap.size w1 W2 := by rw [← hW2]; exact (Below.refl _ _).alloc (Nat.le_refl _) _
            have hp2 : PlAt W2 w1.heap.size zP := by rw [← hW2]; exact new_cellsN _ _ _
            have hP2 := HP1.out.below hb2
            have hR2 := HR1.out.below hb2
            have hB2 : Below w.heap.size w W2 := HB1.out.trans (hb2.mono HB1.out.size)
            rw [hW2]
            clear hW2
            obtain ⟨P, hP⟩ : ∃ P, w1.heap.size = P := ⟨_, rfl⟩
            rw [hP] at hp2 ⊢
            have hPR : w.heap.size < P := by rw [← hP]; have := (Array.getElem?_eq_some_iff.1 HR1.out).1; exact this
            have HPR := Lib.hid hPR
            have HP2 := Lib.hid hP2
            have HR2 := Lib.hid hR2
            have HPL2 := Lib.hid hp2
            have HB2 := Lib.hid hB2
            have g2 := hP2.cell 2 c rfl
            have hsz := fun (i : Nat) (x : Str) (hx : (split1 47 s.data.toList)[i]? = some x) => split_piece hx
            rw [HWS.out] at hsz
            have hc := hsz 2 c rfl
            have hf := hsz 4 f rfl
            have HSZ := Lib.hid hsz
            have KH := Lib.hid (host_calls W2 (HENV.out.below hB2) (mk c) (by rw [mk_size]; exact Nat.le_trans hc HS.out))
            have HF := Lib.hid hf
            clear hsz hc hf hP2 hR2 hp2 hB2 hPR hP hb2 r0 r1 r2 r3 z0 z1 z2 z3 p0 p1 p3 s1 s2 s3 b1 b2
            go_upto_region 6 with (go_at_call 28; refine KH.out.mono ?_; rintro e w3 ⟨h, rfl, hh, hb3⟩; rw [mk_data] at hh ⊢; have HP3 := Lib.hid (HP2.out.below (hb3)); have HR3 := Lib.hid (HR2.out.below hb3); have HPL3 := Lib.hid (HPL2.out.below hb3); have HB3 := Lib.hid (HB2.out.trans (hb3.mono HB2.out.size)); have HH := Lib.hid hh; clear hh hb3)
            have g4 := HP3.out.cell 4 f rfl
            have KN := Lib.hid (number_calls w3 (HENV.out.below HB3.out) (mk f) (by rw [mk_size]; exact Nat.le_trans HF.out HS.out) 65535 (by decide) (by decide))
            go_upto_region 7 with (go_at_call 29; refine KN.out.mono ?_; rintro e w4 ⟨p, rfl, hp, hb4⟩; rw [mk_data] at hp ⊢; have HP4 := Lib.hid (HP3.out.below (hb4)); have HR4 := Lib.hid (HR3.out.below hb4); have HPL4 := Lib.hid (HPL3.out.below hb4); have HB4 := Lib.hid (HB3.out.trans (hb4.mono HB3.out.size)); have HPP := Lib.hid hp; clear hp hb4)
            obtain ⟨r0, r1, r2, r3⟩ := HPL4.out.cells.1
            obtain ⟨z0, z1, z2, z3⟩ := HPL4.out.cells.2
            go_upto_region 8 with fail
            obtain ⟨V, hV⟩ : ∃ V, (w4.setCell ⟨P, 0, none⟩ (.int .u32 h)).setCell ⟨P, 1, none⟩ (.int .i64 p) = V := ⟨_, rfl⟩
            have hplV : PlAt V P (h, p, 0, false) := by rw [← hV]; exact set_cellsN 1 (set_cellsN 0 HPL4.out rfl) rfl
            have hne : P ≠ w.heap.size := by have := HPR.out; omega
            have hrV : PlAt V w.heap.size zP := by rw [← hV]; exact (HR4.out.other (fun e => hne e.symm) _).other (fun e => hne e.symm) _
            have hbV : Below w.heap.size w V := by rw [← hV]; exact (HB4.out.setCell (p := ⟨P, 0, none⟩) (by have := HPR.out; show w.heap.size ≤ P; omega) _).setCell (p := ⟨P, 1, none⟩) (by have := HPR.out; show w.heap.size ≤ P; omega) _
            have hW0P : W0.heap.size ≠ P := fun e => by
              have h1 := HP4.out
              rw [e] at h1
              have h2 : w4.heap[P]? = _ := HPL4.out
              rw [show w4.heap[P]? = _ from h1] at h2
              injection h2 with h2
              injection h2 with _ h2
              exact absurd h2 (by decide)
            have hpcV : PiecesAt V W0.heap.size ([] :: ip4W :: c :: udpW :: f :: rest) := by
              have h1 := HP4.out
              rw [HA.out, HB.out, HD.out] at h1
              rw [← hV]; exact (Below.heap_setCell _ _ _ _ hW0P).trans ((Below.heap_setCell _ _ _ _ hW0P).trans h1)
            rw [hV]
            have HPLV := Lib.hid hplV
            have HRV := Lib.hid hrV
            have HBV := Lib.hid hbV
            have HPCV := Lib.hid hpcV
            have HWP := Lib.hid hW0P
            have HNE := Lib.hid hne
            have hnr : n = rest.length + 5 := by rw [← hn]; simp
            obtain ⟨ok0, hok0⟩ : ∃ ok0, hostOk c = ok0 := ⟨_, rfl⟩
            obtain ⟨is, his⟩ : ∃ is, numOk f 65535 = is := ⟨_, rfl⟩
            rw [hok0, his]
            have HOK := Lib.hid hok0
            have HIS := Lib.hid his
            have HNR := Lib.hid hnr
            clear hnr hn hplV hrV hbV hpcV hV hne hW0P hok0 his r0 r1 r2 r3 z0 z1 z2 z3 g2 g4 HP1 HP2 HP3 HR2 HR3 HR4 HPL2 HPL3 HPL4 HP4 KS KH KN HB2 HB3
            go_upto_if 61 with fail
            go_cut [7] from 12 (fun s7 wx => ∃ okb id, s7 = .bool okb ∧ PlAt wx P (h, p, id, false) ∧ PlAt wx w.heap.size zP ∧ PiecesAt wx W0.heap.size ([] :: ip4W :: c :: udpW :: f :: rest) ∧ Below w.heap.size w wx ∧ okb = okF c rest ∧ (okb = true → id = idF rest))
            case first =>
              have fin : ∀ (X : World) (id : Int), PlAt X P (h, p, 0, false) → PlAt X w.heap.size zP → PiecesAt X W0.heap.size ([] :: ip4W :: c :: udpW :: f :: rest) → Below w.heap.size w X →
                  (PlAt (X.setCell ⟨P, 2, none⟩ (.int .i64 id)) P (h, p, id, false) ∧ PlAt (X.setCell ⟨P, 2, none⟩ (.int .i64 id)) w.heap.size zP ∧ PiecesAt (X.setCell ⟨P, 2, none⟩ (.int .i64 id)) W0.heap.size ([] :: ip4W :: c :: udpW :: f :: rest) ∧ Below w.heap.size w (X.setCell ⟨P, 2, none⟩ (.int .i64 id))) := fun X id k1 k2 k3 k4 =>
                ⟨set_cellsN 2 k1 rfl, k2.other (fun e => HNE.out e.symm) _, (Below.heap_setCell _ _ _ _ HWP.out).trans k3, k4.setCell (p := ⟨P, 2, none⟩) (by have := HPR.out; show w.heap.size ≤ P; omega) _⟩
              have FIN := Lib.hid fin
              clear fin
              obtain ⟨r0, r1, r2, r3⟩ := HPLV.out.cells.1
              obtain ⟨z0, z1, z2, z3⟩ := HPLV.out.cells.2
              match rest with
              | [] =>
                have b1 : decide ((n : Int) > 5) = false := decide_eq_false (by rw [HNR.out]; simp <;> try omega)
                have b1' : decide (5 < n) = false := decide_eq_false (by rw [HNR.out]; simp <;> try omega)
                have b1'' : decide ((5 : Int) < n) = false := decide_eq_false (by rw [HNR.out]; simp <;> try omega)
                rw [b1'']
                go_wp2
                go_meet
                case rel => exact ⟨ok0, 0, rfl, HPLV.out, HRV.out, HPCV.out, HBV.out, HOK.out.symm, fun _ => rfl⟩
              | [g] =>
                have b1 : decide ((n : Int) > 5) = true := decide_eq_true (by rw [HNR.out]; simp <;> try omega)
                have b1' : decide (5 < n) = true := decide_eq_true (by rw [HNR.out]; simp <;> try omega)
                have b1'' : decide ((5 : Int) < n) = true := decide_eq_true (by rw [HNR.out]; simp <;> try omega)
                rw [b1'']
                have b2 : decide ((n : Int) > 6) = false := decide_eq_false (by rw [HNR.out]; simp <;> try omega)
                have b2' : decide (6 < n) = false := decide_eq_false (by rw [HNR.out]; simp <;> try omega)
                have b2'' : decide ((6 : Int) < n) = false := decide_eq_false (by rw [HNR.out]; simp <;> try omega)
                have g5 := HPCV.out.cell 5 g rfl
                have hlt : (5 : Int) < n := by rw [HNR.out]; simp
                have F := FIN.out V 0 HPLV.out HRV.out HPCV.out HBV.out
                have HFF := Lib.hid F
                clear F FIN
                obtain ⟨q, hq⟩ : ∃ q, ((mk g).toList == [112, 50, 112]) = q := ⟨_, rfl⟩
                cases q <;> cases ok0 <;> (
                  go_wp2
                  go_meet
                  case rel => exact ⟨false, 0, rfl, HFF.out.1, HFF.out.2.1, HFF.out.2.2.1, HFF.out.2.2.2, rfl, fun e => by cases e⟩)
              | g :: k :: r =>
                have b1 : decide ((n : Int) > 5) = true := decide_eq_true (by rw [HNR.out]; simp <;> try omega)
                have b1' : decide (5 < n) = true := decide_eq_true (by rw [HNR.out]; simp <;> try omega)
                have b1'' : decide ((5 : Int) < n) = true := decide_eq_true (by rw [HNR.out]; simp <;> try omega)
                rw [b1'']
                have b2 : decide ((n : Int) > 6) = true := decide_eq_true (by rw [HNR.out]; simp <;> try omega)
                have b2' : decide (6 < n) = true := decide_eq_true (by rw [HNR.out]; simp <;> try omega)
                have b2'' : decide ((6 : Int) < n) = true := decide_eq_true (by rw [HNR.out]; simp <;> try omega)
                have g5 := HPCV.out.cell 5 g rfl
                have g6 := HPCV.out.cell 6 k rfl
                have hlt : (6 : Int) < n := by rw [HNR.out]; simp; omega
                by_cases hg : g = p2pW
                · have q : ((mk g).toList == [112, 50, 112]) = true := by rw [Go.ByteArray.toList_eq, mk_data, hg]; rfl
                  have HG := Lib.hid hg
                  have KN := Lib.hid (number_calls V (HENV.out.below HBV.out) (mk k) (by rw [mk_size]; exact Nat.le_trans (HSZ.out 6 k rfl) HS.out) 2147483647 (by decide) (by decide))
                  clear hg r0 r1 r2 r3 z0 z1 z2 z3
                  cases hnum : numOk k 2147483647 with
                  | true =>
                    have HNUM := Lib.hid hnum
                    have KN2 : Hid (Calls Tryd.prog 29 #[.string (mk k), .int .i64 2147483647] V fun e w2 => e = .returned (.tuple #[.int .i64 (val k : Int), .bool true]) ∧ Below V.heap.size V w2) := Lib.hid (KN.out.mono (fun e w2 ⟨v, h1, h2, h3⟩ => by
                      rw [mk_data] at h1 h2
                      rw [HNUM.out] at h1
                      rw [h2 HNUM.out] at h1
                      exact ⟨h1, h3⟩))
                    obtain ⟨v, hv⟩ : ∃ v : Int, (val k : Int) = v := ⟨_, rfl⟩
                    rw [hv] at KN2
                    have HVX := Lib.hid hv
                    clear hnum hv KN
                    obtain ⟨t, ht⟩ : ∃ t, decide (v > 0) = t := ⟨_, rfl⟩
                    have HT := Lib.hid ht
                    have hokF : okF c (g :: k :: r) = (ok0 && t) := by
                      show (hostOk c && (decide (g = p2pW) && (numOk k 2147483647 && decide (0 < (val k : Int))))) = _
                      rw [HOK.out, decide_eq_true HG.out, HNUM.out, HVX.out, Bool.true_and, Bool.true_and, ← HT.out]
                    have HOKF := Lib.hid hokF
                    clear hokF
                    cases ok0 <;> cases t <;> (
                      go_wp2_with (go_at_call 29; refine KN2.out.mono ?_; rintro e w5 ⟨rfl, hb5⟩; have HB5 := Lib.hid hb5; have h5a := HPLV.out.below hb5; obtain ⟨r0, r1, r2, r3⟩ := h5a.cells.1; obtain ⟨z0, z1, z2, z3⟩ := h5a.cells.2; clear hb5 h5a)
                      have F := FIN.out w5 v (HPLV.out.below HB5.out) (HRV.out.below HB5.out) (HPCV.out.below HB5.out) (HBV.out.trans (HB5.out.mono HBV.out.size))
                      have HFF := Lib.hid F
                      clear F
                      go_meet
                      case rel => exact ⟨_, v, rfl, HFF.out.1, HFF.out.2.1, HFF.out.2.2.1, HFF.out.2.2.2, HOKF.out.symm, fun e => HVX.out.symm⟩)
                  | false =>
                    have HNUM := Lib.hid hnum
                    have KN2 : Hid (Calls Tryd.prog 29 #[.string (mk k), .int .i64 2147483647] V fun e w2 => ∃ v, e = .returned (.tuple #[.int .i64 v, .bool false]) ∧ Below V.heap.size V w2) := Lib.hid (KN.out.mono (fun e w2 ⟨v, h1, h2, h3⟩ => ⟨v, by rw [h1, mk_data, HNUM.out], h3⟩))
                    clear hnum KN
                    have hokF : okF c (g :: k :: r) = false := by
                      show (hostOk c && (decide (g = p2pW) && (numOk k 2147483647 && decide (0 < (val k : Int))))) = _
                      rw [HNUM.out, Bool.false_and, Bool.and_false, Bool.and_false]
                    have HOKF := Lib.hid hokF
                    clear hokF
                    cases ok0 <;> (
                      go_wp2_with (go_at_call 29; refine KN2.out.mono ?_; rintro e w5 ⟨v, rfl, hb5⟩; have HB5 := Lib.hid hb5; have h5a := HPLV.out.below hb5; obtain ⟨r0, r1, r2, r3⟩ := h5a.cells.1; obtain ⟨z0, z1, z2, z3⟩ := h5a.cells.2; clear hb5 h5a)
                      have F := FIN.out w5 v (HPLV.out.below HB5.out) (HRV.out.below HB5.out) (HPCV.out.below HB5.out) (HBV.out.trans (HB5.out.mono HBV.out.size))
                      have HFF := Lib.hid F
                      clear F
                      go_meet
                      case rel => exact ⟨false, v, rfl, HFF.out.1, HFF.out.2.1, HFF.out.2.2.1, HFF.out.2.2.2, HOKF.out.symm, fun e => by cases e⟩)
                · have q : ((mk g).toList == [112, 50, 112]) = false := by rw [Go.ByteArray.toList_eq, mk_data, beq_eq_false_iff_ne]; exact hg
                  have hokF : okF c (g :: k :: r) = false := by
                    show (hostOk c && (decide (g = p2pW) && (numOk k 2147483647 && decide (0 < (val k : Int))))) = _
                    rw [decide_eq_false hg, Bool.false_and, Bool.and_false]
                  have HOKF := Lib.hid hokF
                  have F := FIN.out V 0 HPLV.out HRV.out HPCV.out HBV.out
                  have HFF := Lib.hid F
                  clear F hokF hg
                  cases ok0 <;> (
                    go_wp2
                    go_meet
                    case rel => exact ⟨false, 0, rfl, HFF.out.1, HFF.out.2.1, HFF.out.2.2.1, HFF.out.2.2.2, HOKF.out.symm, fun e => by cases e⟩)
            case rest =>
              obtain ⟨okb, id, rfl, hpl, hr, hpc, hb, hok, hid⟩ := hcut
              have XPL := Lib.hid hpl
              have XR := Lib.hid hr
              have XPC := Lib.hid hpc
              have XB := Lib.hid hb
              have XOK := Lib.hid hok
              have XID := Lib.hid hid
              clear hpl hr hpc hb hok hid HPLV HRV HPCV HBV HOK
              go_upto_if 90 with fail
              go_cut [7] from 12 (fun s7 wx => s7 = .bool (okG c rest) ∧ PlAt wx P (h, p, id, decide (7 < rest.length + 5)) ∧ PlAt wx w.heap.size zP ∧ Below w.heap.size w wx)
              case first =>
                obtain ⟨r0, r1, r2, r3⟩ := XPL.out.cells.1
                obtain ⟨z0, z1, z2, z3⟩ := XPL.out.cells.2
                by_cases h7 : rest.length = 3
                · have b1 : decide ((7 : Int) < n) = true := decide_eq_true (by rw [HNR.out, h7]; decide)
                  rw [b1]
                  obtain ⟨x, y, k, rfl⟩ : ∃ x y k, rest = [x, y, k] := by
                    match rest, h7 with
                    | [x, y, k], _ => exact ⟨x, y, k, rfl⟩
                  have g7 := XPC.out.cell 7 k rfl
                  have hlt : (7 : Int) < n := by rw [HNR.out]; simp
                  obtain ⟨t, ht⟩ : ∃ t, ((mk k).toList == [112, 50, 112, 45, 99, 105, 114, 99, 117, 105, 116]) = t := ⟨_, rfl⟩
                  have ht2 : decide (k = cirW) = t := by
                    rw [← ht, Go.ByteArray.toList_eq, mk_data]
                    by_cases e : k = cirW
                    · rw [e]; rfl
                    · rw [decide_eq_false e]; symm; rw [beq_eq_false_iff_ne]; exact e
                  have hokG : okG c [x, y, k] = (okb && t) := by
                    show (okF c [x, y, k] && decide (k = cirW)) = _
                    rw [← XOK.out, ht2]
                  have F : PlAt (wc.setCell ⟨P, 3, none⟩ (.bool true)) P (h, p, id, true) ∧ PlAt (wc.setCell ⟨P, 3, none⟩ (.bool true)) w.heap.size zP ∧ Below w.heap.size w (wc.setCell ⟨P, 3, none⟩ (.bool true)) :=
                    ⟨set_cellsN 3 XPL.out rfl, XR.out.other (fun e => HNE.out e.symm) _, XB.out.setCell (p := ⟨P, 3, none⟩) (by have := HPR.out; show w.heap.size ≤ P; omega) _⟩
                  have HF2 := Lib.hid F
                  have HG := Lib.hid hokG
                  have HT2 := Lib.hid ht2
                  clear F hokG ht2 h7
                  cases okb <;> cases t <;> (
                    go_wp2
                    go_meet
                    case rel => exact ⟨by rw [HG.out]; rfl, HF2.out.1, HF2.out.2.1, HF2.out.2.2⟩)
                · have hnr := HNR.out
                  have b1 : decide ((7 : Int) < n) = false := decide_eq_false (by omega)
                  rw [b1]
                  have e1 : decide (7 < rest.length + 5) = false := decide_eq_false (by omega)
                  have e2 : okG c rest = okb := by
                    rw [XOK.out]
                    match rest, h7 with
                    | [], _ => rfl
                    | [_], _ => rfl
                    | [_, _], _ => rfl
                    | _ :: _ :: _ :: _ :: _, _ => rfl
                    | [_, _, _], h => exact absurd rfl h
                  have E1 := Lib.hid e1
                  have E2 := Lib.hid e2
                  clear e1 e2 h7 hnr
                  go_wp2
                  go_meet
                  case rel => exact ⟨by rw [E2.out], by rw [E1.out]; exact XPL.out, XR.out, XB.out⟩
              case rest =>
                obtain ⟨rfl, hpl, hr, hb⟩ := hcut
                have hfin := parse_fin (c := c) (f := f) (rest := rest) (h := h) (p := p) (id := id) (by have := HNR.out; omega) HH.out HPP.out (by rw [← XOK.out]; exact XID.out)
                rw [HIS.out] at hfin
                obtain ⟨vb, hvb⟩ : ∃ vb, decide (7 < rest.length + 5) = vb := ⟨_, rfl⟩
                obtain ⟨ob, hob⟩ : ∃ ob, okG c rest = ob := ⟨_, rfl⟩
                rw [hvb] at hfin hpl
                rw [hob] at hfin ⊢
                have HFIN : Hid (parseR s.data.toList = if (ob && (is && mayP (h, p, id, vb))) = true then ((h, p, id, vb), 0) else (zP, 3)) := Lib.hid (by
                  unfold parseR parseF
                  rw [HWS.out, HA.out, HB.out, HD.out, hfin]
                  split <;> rename_i e <;> split at e <;> simp_all)
                clear hfin hvb hob
                have YPL := Lib.hid hpl
                have YR := Lib.hid hr
                have YB := Lib.hid hb
                obtain ⟨r0, r1, r2, r3⟩ := hpl.cells.1
                obtain ⟨z0, z1, z2, z3⟩ := hr.cells.2
                obtain ⟨q0, q1, q2, q3⟩ := hr.cells.1
                have KM := Lib.hid (mayp_calls wc h p id vb)
                have BADE : Hid ((ob && (is && mayP (h, p, id, vb))) = false → ∀ X : World, PlAt X w.heap.size zP → Below w.heap.size w X → (PlAt (put4 X w.heap.size zP) w.heap.size zP ∧ Below w.heap.size w (put4 X w.heap.size zP) ∧ parseR s.data.toList = (zP, 3))) := Lib.hid (fun e X k1 k2 => ⟨k1.put _, put4_below k2 (Nat.le_refl _) _, by rw [HFIN.out, if_neg (by rw [e]; decide)]⟩)
                clear hpl hr hb
                cases ob with
                | false =>
                  have B := BADE.out rfl wc YR.out YB.out
                  unfold put4 at B
                  dsimp only [zP] at B
                  have HBE := Lib.hid B
                  clear B BADE
                  go_wp2
                  exact bodyPost_ret (parse_results _ HBE.out.1 rfl rfl) rfl ⟨by rw [HBE.out.2.2], HBE.out.2.1⟩
                | true =>
                  cases is with
                  | false =>
                    have B := BADE.out rfl wc YR.out YB.out
                    unfold put4 at B
                    dsimp only [zP] at B
                    have HBE := Lib.hid B
                    clear B BADE
                    go_wp2
                    exact bodyPost_ret (parse_results _ HBE.out.1 rfl rfl) rfl ⟨by rw [HBE.out.2.2], HBE.out.2.1⟩
                  | true =>
                    obtain ⟨m, hm⟩ : ∃ m, mayP (h, p, id, vb) = m := ⟨_, rfl⟩
                    have KM2 : Hid (Calls Tryd.prog 12 #[.agg #[.int .u32 h, .int .i64 p, .int .i64 id, .bool vb]] wc fun e w' => e = .returned (.bool m) ∧ Below wc.heap.size wc w') := Lib.hid (by rw [← hm]; exact KM.out)
                    have HM := Lib.hid hm
                    clear hm KM
                    cases m with
                    | false =>
                      go_wp2_with (go_at_call 12; refine KM2.out.mono ?_; rintro e w6 ⟨rfl, hb6⟩; have HB6 := Lib.hid hb6; have h6a := YR.out.below hb6; obtain ⟨z0, z1, z2, z3⟩ := h6a.cells.2; obtain ⟨q0, q1, q2, q3⟩ := h6a.cells.1; clear hb6 h6a)
                      have B := BADE.out (by rw [HM.out]; rfl) w6 (YR.out.below HB6.out) (YB.out.trans (HB6.out.mono YB.out.size))
                      unfold put4 at B
                      dsimp only [zP] at B
                      exact bodyPost_ret (parse_results _ B.1 rfl rfl) rfl ⟨by rw [B.2.2], B.2.1⟩
                    | true =>
                      go_wp2_with (go_at_call 12; refine KM2.out.mono ?_; rintro e w6 ⟨rfl, hb6⟩; have HB6 := Lib.hid hb6; have h6a := YR.out.below hb6; have h6b := YPL.out.below hb6; obtain ⟨r0, r1, r2, r3⟩ := h6b.cells.1; obtain ⟨z0, z1, z2, z3⟩ := h6a.cells.2; obtain ⟨q0, q1, q2, q3⟩ := h6a.cells.1; clear hb6 h6a h6b)
                      have hq : PlAt (put4 w6 w.heap.size (h, p, id, vb)) w.heap.size (h, p, id, vb) := (YR.out.below HB6.out).put _
                      have hbq : Below w.heap.size w (put4 w6 w.heap.size (h, p, id, vb)) := put4_below (YB.out.trans (HB6.out.mono YB.out.size)) (Nat.le_refl _) _
                      have hpr : parseR s.data.toList = ((h, p, id, vb), 0) := by rw [HFIN.out, HM.out]; rfl
                      unfold put4 at hq hbq
                      dsimp only at hq hbq
                      exact bodyPost_ret (parse_results _ hq rfl rfl) rfl ⟨by rw [hpr], hbq⟩
          · have s3 : ((mk d).toList == [117, 100, 112]) = false := by rw [Go.ByteArray.toList_eq, mk_data, beq_eq_false_iff_ne]; exact hd
            have HD := Lib.hid hd
            clear hd
            go_wp2
            obtain ⟨V, hV⟩ : ∃ V, put4 w1 w.heap.size zP = V := ⟨_, rfl⟩
            have hq : PlAt V w.heap.size zP := by rw [← hV]; exact HR1.out.put _
            have hbv : Below w.heap.size w V := by rw [← hV]; exact put4_below HB1.out (Nat.le_refl _) _
            unfold put4 at hV
            dsimp only [zP] at hV
            rw [hV]
            exact bodyPost_ret (parse_results _ hq rfl rfl) rfl ⟨by rw [HEAD.out (.inr (.inr HD.out))], hbv⟩
        · have s2 : ((mk b).toList == [105, 112, 52]) = false := by rw [Go.ByteArray.toList_eq, mk_data, beq_eq_false_iff_ne]; exact hb
          have HB := Lib.hid hb
          clear hb
          go_wp2
          obtain ⟨V, hV⟩ : ∃ V, put4 w1 w.heap.size zP = V := ⟨_, rfl⟩
          have hq : PlAt V w.heap.size zP := by rw [← hV]; exact HR1.out.put _
          have hbv : Below w.heap.size w V := by rw [← hV]; exact put4_below HB1.out (Nat.le_refl _) _
          unfold put4 at hV
          dsimp only [zP] at hV
          rw [hV]
          exact bodyPost_ret (parse_results _ hq rfl rfl) rfl ⟨by rw [HEAD.out (.inr (.inl HB.out))], hbv⟩
      · have s1 : (mk a).toList.isEmpty = false := by rw [Go.ByteArray.toList_eq, mk_data, List.isEmpty_eq_false_iff]; exact ha
        have HA := Lib.hid ha
        clear ha
        go_wp2
        obtain ⟨V, hV⟩ : ∃ V, put4 w1 w.heap.size zP = V := ⟨_, rfl⟩
        have hq : PlAt V w.heap.size zP := by rw [← hV]; exact HR1.out.put _
        have hbv : Below w.heap.size w V := by rw [← hV]; exact put4_below HB1.out (Nat.le_refl _) _
        unfold put4 at hV
        dsimp only [zP] at hV
        rw [hV]
        exact bodyPost_ret (parse_results _ hq rfl rfl) rfl ⟨by rw [HEAD.out (.inl HA.out)], hbv⟩
end Go.Proofs.YtjbhcaifmgbpgaaDoor.Ad
