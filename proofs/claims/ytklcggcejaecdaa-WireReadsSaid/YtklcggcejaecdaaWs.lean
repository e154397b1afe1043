/-
  What the reference's FromBytes of package wire comes to: what wire.FromBytes comes to; and WireReads. Conditions: bytes are bytes.
-/
import Derived.Test.YtklcggcejaecdaaWo
import Derived.Test.YtklcggcejaecdaaWqs
import Derived.Test.YtklcggcejaecdaaJx9
namespace Go.Proofs.Ytklcggcejaecdaa.J
open Go.RowKit Go.Shelf Go.Proofs.Ytklcggcejaecdaa.Wi Go.Proofs.Ytklcggcejaecdaa.Uv Go.Proofs.Ytklcggcejaecdaa.Fr Go.Proofs.YtklcggcejaecdaaW.PrintWords Go.Proofs.YtklcggcejaecdaaW.PrintLast Go.Proofs.YtklcggcejaecdaaW.PrintMore
set_option linter.unusedVariables false
set_option linter.unusedSimpArgs false
abbrev OutJ := Int × List Int × List S45 × List Int × Int
def badJ : OutJ := (0, [], [], [], 3)
def endJ (l : List Int) (kd : Int) (N : List Int) (L : List S45) (rest : List Int) : OutJ :=
  if (getF rest).2.2 = 0 then (if bytesF kd N (L.map prS) (getF rest).1 = l then (kd, N, L, (getF rest).1, 0) else badJ) else badJ
def spec1 (l : List Int) (kd : Int) (N : List Int) : Nat → List Int → List S45 → OutJ
  | 0, rest, L => endJ l kd N L rest
  | n + 1, rest, L => if rest.length < 6 then badJ else spec1 l kd N n (rest.drop 6) (L ++ [⟨(Go.Proofs.Ytklcggcejaecdaa.H.addrV (rest.take 6)).1, (Go.Proofs.Ytklcggcejaecdaa.H.addrV (rest.take 6)).2.1⟩])
def spec2 (l : List Int) (kd : Int) (N : List Int) : List Int → OutJ
  | [] => badJ
  | c :: rest => if 8 < c then badJ else spec1 l kd N c.toNat rest []
def spec0 (l : List Int) (kd : Int) : Nat → List Int → List Int → OutJ
  | 0, rest, N => spec2 l kd N rest
  | n + 1, rest, N => if (getI rest).2.2 = 0 then spec0 l kd n (rest.drop (getI rest).2.1.toNat) (N ++ [(getI rest).1]) else badJ
def fromJ (l : List Int) : OutJ := if (getI l).2.2 = 0 ∧ 1 ≤ (getI l).1 ∧ (getI l).1 ≤ 18 then spec0 l (getI l).1 (numsF (getI l).1).toNat (l.drop (getI l).2.1.toNat) [] else badJ
theorem numsF_ge {k : Int} (h0 : 1 ≤ k) (h1 : k ≤ 18) : 1 ≤ numsF k := by
  have hc : k = 1 ∨ k = 2 ∨ k = 3 ∨ k = 4 ∨ k = 5 ∨ k = 6 ∨ k = 7 ∨ k = 8 ∨ k = 9 ∨ k = 10 ∨ k = 11 ∨ k = 12 ∨ k = 13 ∨ k = 14 ∨ k = 15 ∨ k = 16 ∨ k = 17 ∨ k = 18 := by omega
  rcases hc with rfl | rfl | rfl | rfl | rfl | rfl | rfl | rfl | rfl | rfl | rfl | rfl | rfl | rfl | rfl | rfl | rfl | rfl <;> decide
theorem inN_app {N : List Int} {v : Int} (h : InN N) (h0 : 0 ≤ v) (h1 : v ≤ 18446744073709551615) : InN (N ++ [v]) := by
  intro u hu
  rcases List.mem_append.1 hu with hu | hu
  · exact h u hu
  · rw [List.mem_singleton.1 hu]; exact ⟨h0, h1⟩
theorem inS_app {L : List S45} {v : S45} (h : InS L) (h0 : okA (prS v)) : InS (L ++ [v]) := by
  intro u hu
  rcases List.mem_append.1 hu with hu | hu
  · exact h u hu
  · rw [List.mem_singleton.1 hu]; exact h0
theorem rafb_f {l : List Int} (h : Bytes l) : embrasureref03_FromBytes.f l = some (Go.Proofs.Ytklcggcejaecdaa.H.addrV l) := if_pos h
theorem rget_f {l : List Int} (h : Bytes l) : embrasureref01_Get.f l = some (getI l) := if_pos h
theorem rfget_f {l : List Int} (h : Bytes l) (hl : l.length ≤ 1000000000) : embrasureref02_Get.f l = some (getF l) := if_pos ⟨h, hl⟩
theorem addr_in {l : List Int} (h : Bytes l) : okA (prS ⟨(Go.Proofs.Ytklcggcejaecdaa.H.addrV l).1, (Go.Proofs.Ytklcggcejaecdaa.H.addrV l).2.1⟩) := addrV_range h
theorem take_b {l : List Int} (h : Bytes l) (n : Nat) : Bytes (l.take n) := fun x hx => h x (List.mem_of_mem_take hx)
/-! ### its loops -/
theorem fj_l1 (l : List Int) (hb : Bytes l) (hl : l.length ≤ 3000) (kd : Int) (N : List Int) (hN : InN N) (hNl : N.length ≤ 40) (n : Nat) (hn : n ≤ 8) (d : Nat) : ∀ (i p : Nat) (L : List S45), i + d = n → p ≤ l.length → L.length = i → InS L → Ev (fun k => embrasureref05_FromBytes.l1 k l p n i kd N L) (spec1 l kd N d (l.drop p) L) := by
  induction d with
  | zero =>
    intro i p L hi hp hL hS
    have hg := rfget_f (hb.drop p) (by rw [List.length_drop]; omega)
    have hgl := @getF_in (l.drop p) (hb.drop p)
    refine Ev.step (f := fun k => if (getF (l.drop p)).2.2 = 0 then ((embrasureref05_Bytes.f k kd N L (getF (l.drop p)).1).bind fun t241 => ((embrasureref01_Same.f t241 l).bind fun t244 => (if t244 = true then (some (kd, N, L, (getF (l.drop p)).1, 0)) else (some (0, ([] : List Int), ([] : List S45), ([] : List Int), 3))))) else (some (0, ([] : List Int), ([] : List S45), ([] : List Int), 3))) (fun k => ?_) ?_
    · simp only [embrasureref05_FromBytes.l1]
      rw [if_neg (by omega), if_pos (by omega), if_pos (by omega), Int.toNat_natCast, hg, Option.bind_some]
    · unfold spec1 endJ
      by_cases q : (getF (l.drop p)).2.2 = 0
      · rw [if_pos q]
        refine Ev_if q ?_
        refine Ev.bind (rbytes_yes hN hS (by omega) (by omega)) ?_
        have h9 := bytesF_len kd N (L.map prS) (getF (l.drop p)).1
        rw [same_f (by omega), Option.bind_some]
        simp only [decide_eq_true_eq]
        by_cases e : bytesF kd N (L.map prS) (getF (l.drop p)).1 = l
        · rw [if_pos e, if_pos e]
          exact Ev.now _
        · rw [if_neg e, if_neg e]
          exact Ev.now _
      · rw [if_neg q]
        exact Ev_else q (Ev.now _)
  | succ d ih =>
    intro i p L hi hp hL hS
    unfold spec1
    by_cases h6 : (l.drop p).length < 6
    · rw [if_pos h6]
      rw [List.length_drop] at h6
      refine Ev.step (f := fun _ => some badJ) (fun k => ?_) (Ev.now _)
      simp only [embrasureref05_FromBytes.l1]
      rw [if_pos (by omega), wr _ (by omega) (by omega), if_pos (by omega)]
      rfl
    · rw [if_neg h6]
      rw [List.length_drop] at h6
      have ht : ((l.take (((p : Int) + 6)).toNat).drop p) = (l.drop p).take 6 := by
        rw [show ((p : Int) + 6).toNat = p + 6 by omega, List.drop_take, Nat.add_sub_cancel_left]
      have ha := rafb_f (take_b (hb.drop p) 6)
      refine Ev.step (f := fun k => embrasureref05_FromBytes.l1 k l ((p + 6 : Nat) : Int) n ((i + 1 : Nat) : Int) kd N (L ++ [⟨(Go.Proofs.Ytklcggcejaecdaa.H.addrV ((l.drop p).take 6)).1, (Go.Proofs.Ytklcggcejaecdaa.H.addrV ((l.drop p).take 6)).2.1⟩])) (fun k => ?_) ?_
      · simp only [embrasureref05_FromBytes.l1]
        rw [if_pos (by omega), wr ((p : Int) + 6) (by omega) (by omega), if_neg (by omega), if_pos (by omega), if_pos (by omega), if_pos (by omega), Int.toNat_natCast, ht, ha, Option.bind_some, if_pos (by omega), wr _ (by omega) (by omega)]
        rfl
      · have := ih (i + 1) (p + 6) (L ++ [⟨(Go.Proofs.Ytklcggcejaecdaa.H.addrV ((l.drop p).take 6)).1, (Go.Proofs.Ytklcggcejaecdaa.H.addrV ((l.drop p).take 6)).2.1⟩]) (by omega) (by omega) (by rw [List.length_append, hL]; rfl) (inS_app hS (addr_in (take_b (hb.drop p) 6)))
        rw [← List.drop_drop] at this
        exact this
theorem fj_l0 (l : List Int) (hb : Bytes l) (hl : l.length ≤ 3000) (kd : Int) (hk : 1 ≤ numsF kd) (d : Nat) : ∀ (i p : Nat) (N : List Int), i + d = (numsF kd).toNat → p ≤ l.length → N.length = i → InN N → Ev (fun k => embrasureref05_FromBytes.l0 k l p i kd N) (spec0 l kd d (l.drop p) N) := by
  have h6 := numsF_le kd
  induction d with
  | zero =>
    intro i p N hi hp hL hN
    unfold spec0
    by_cases q : p < l.length
    · rw [List.drop_eq_getElem_cons q]
      simp only [spec2]
      have hpb := hb l[p] (List.getElem_mem q)
      refine Ev.step (f := fun k => (embrasureref05_Nums.f k kd).bind fun t217 => (if (i : Int) < t217 then (if 0 ≤ (p : Int) then (if (p : Int) ≤ (l.length : Int) then ((embrasureref01_Get.f (l.drop (p : Int).toNat)).bind fun bt219 => (if bt219.2.2 = 0 then (if N.length < 17592186044416 then (embrasureref05_FromBytes.l0 k l (wrap64 (p + bt219.2.1)) (wrap64 (i + 1)) kd (N ++ [bt219.1])) else (none)) else (some (0, ([] : List Int), ([] : List S45), ([] : List Int), 3)))) else (none)) else (none)) else embrasureref05_FromBytes.j2 k l p (decide (8 < l[p])) kd N)) (fun k => ?_) ?_
      · simp only [embrasureref05_FromBytes.l0]
        rw [if_neg (by omega : ¬ (p : Int) ≥ (l.length : Int)), if_pos (by omega : (0 : Int) ≤ p), if_pos (by omega : (p : Int) < l.length), rd_get l p q]
        simp only [gt_iff_lt]
        rw [if_pos (by omega : (0 : Int) ≤ p)]
      · refine Ev.bind (rnums_yes kd) (Ev_else (by omega) ?_)
        by_cases c : 8 < l[p]
        · rw [if_pos c]
          refine Ev.step (f := fun _ => some badJ) (fun k => ?_) (Ev.now _)
          simp only [embrasureref05_FromBytes.j2]
          rw [if_pos (by simpa using c)]
          rfl
        · rw [if_neg c]
          have := fj_l1 l hb hl kd N hN (by omega) l[p].toNat (by omega) l[p].toNat 0 (p + 1) [] (by omega) (by omega) rfl (fun a ha => by cases ha)
          refine Ev.step (f := fun k => embrasureref05_FromBytes.l1 k l ((p + 1 : Nat) : Int) (l[p].toNat : Int) ((0 : Nat) : Int) kd N []) (fun k => ?_) this
          simp only [embrasureref05_FromBytes.j2]
          rw [if_neg (by simpa using c), if_pos (by omega), if_pos (by omega), rd_get l p q, wr _ (by omega) (by omega), wr _ (by omega) (by omega), show (l[p].toNat : Int) = l[p] by omega]
          rfl
    · rw [List.drop_eq_nil_of_le (by omega)]
      simp only [spec2]
      refine Ev.step (f := fun k => (embrasureref05_Nums.f k kd).bind fun t217 => (if (i : Int) < t217 then (if 0 ≤ (p : Int) then (if (p : Int) ≤ (l.length : Int) then ((embrasureref01_Get.f (l.drop (p : Int).toNat)).bind fun bt219 => (if bt219.2.2 = 0 then (if N.length < 17592186044416 then (embrasureref05_FromBytes.l0 k l (wrap64 (p + bt219.2.1)) (wrap64 (i + 1)) kd (N ++ [bt219.1])) else (none)) else (some (0, ([] : List Int), ([] : List S45), ([] : List Int), 3)))) else (none)) else (none)) else embrasureref05_FromBytes.j2 k l p true kd N)) (fun k => ?_) ?_
      · simp only [embrasureref05_FromBytes.l0]
        rw [if_pos (by omega : (p : Int) ≥ (l.length : Int))]
      · refine Ev.bind (rnums_yes kd) (Ev_else (by omega) ?_)
        refine Ev.step (f := fun _ => some badJ) (fun k => ?_) (Ev.now _)
        simp only [embrasureref05_FromBytes.j2]
        rw [if_pos trivial]
        rfl
  | succ d ih =>
    intro i p N hi hp hL hN
    unfold spec0
    have hg := rget_f (hb.drop p)
    have hin := @getI_in (l.drop p) (hb.drop p)
    rw [List.length_drop] at hin
    refine Ev.step (f := fun k => (embrasureref05_Nums.f k kd).bind fun t217 => if (i : Int) < t217 then (if (getI (l.drop p)).2.2 = 0 then embrasureref05_FromBytes.l0 k l (wrap64 (p + (getI (l.drop p)).2.1)) ((i + 1 : Nat) : Int) kd (N ++ [(getI (l.drop p)).1]) else some badJ) else (if (p : Int) ≥ (l.length : Int) then (embrasureref05_FromBytes.j2 k l p true kd N) else (if 0 ≤ (p : Int) then (if (p : Int) < (l.length : Int) then (embrasureref05_FromBytes.j2 k l p (decide ((rd l p) > 8)) kd N) else (none)) else (none)))) (fun k => ?_) ?_
    · simp only [embrasureref05_FromBytes.l0]
      rw [if_pos (by omega : (0 : Int) ≤ p), if_pos (by omega : (p : Int) ≤ l.length), Int.toNat_natCast, hg, Option.bind_some, if_pos (by omega : N.length < 17592186044416), wr ((i : Int) + 1) (by omega) (by omega)]
      rfl
    · refine Ev.bind (rnums_yes kd) (Ev_if (by omega) ?_)
      by_cases q : (getI (l.drop p)).2.2 = 0
      · rw [if_pos q]
        obtain ⟨h1, h2, h3, h4, h5⟩ := hin q
        obtain ⟨m, hm⟩ := Int.eq_ofNat_of_zero_le (by omega : 0 ≤ (getI (l.drop p)).2.1)
        refine Ev_if q ?_
        have := ih (i + 1) (p + m) (N ++ [(getI (l.drop p)).1]) (by omega) (by omega) (by rw [List.length_append, hL]; rfl) (inN_app hN h4 (by omega))
        rw [← List.drop_drop] at this
        rw [hm, Int.toNat_natCast, wr _ (by omega) (by omega)]
        exact this
      · rw [if_neg q]
        exact Ev_else q (Ev.now _)
theorem rfrom_yes {l : List Int} (hb : Bytes l) (hl : l.length ≤ 3000) : Ev (fun k => embrasureref05_FromBytes.f k l) (fromJ l) := by
  have hin := @getI_in l hb
  have bad : ∀ x4 x5, Ev (fun k => embrasureref05_FromBytes.j0 k l x4 x5 true) badJ := by
    intro x4 x5
    refine Ev.step (f := fun _ => some badJ) (fun k => ?_) (Ev.now _)
    simp only [embrasureref05_FromBytes.j0]
    rw [if_pos trivial]
    rfl
  unfold embrasureref05_FromBytes.f fromJ
  simp only [rget_f hb, Option.bind_some]
  by_cases q : (getI l).2.2 = 0
  · obtain ⟨h1, h2, h3, h4, h5⟩ := hin q
    refine Ev_if q ?_
    by_cases q1 : (getI l).1 < 1
    · rw [if_neg (fun h => by omega)]
      exact Ev_if q1 (bad _ _)
    · refine Ev_else q1 ?_
      by_cases q2 : 18 < (getI l).1
      · rw [if_neg (fun h => by omega)]
        simp only [gt_iff_lt, decide_eq_true q2]
        exact bad _ _
      · rw [if_pos ⟨q, by omega, by omega⟩]
        simp only [gt_iff_lt, decide_eq_false q2]
        obtain ⟨m, hm⟩ := Int.eq_ofNat_of_zero_le (by omega : 0 ≤ (getI l).2.1)
        have := fj_l0 l hb hl (getI l).1 (numsF_ge (by omega) (by omega)) (numsF (getI l).1).toNat 0 m [] (by omega) (by omega) rfl (fun v hv => by cases hv)
        rw [hm, Int.toNat_natCast]
        refine Ev.step (f := fun k => embrasureref05_FromBytes.l0 k l (m : Int) ((0 : Nat) : Int) (getI l).1 []) (fun k => ?_) this
        simp only [embrasureref05_FromBytes.j0]
        rw [if_neg (by simp), wr _ (by omega) (by omega)]
        rfl
  · rw [if_neg (fun h => q h.1)]
    exact Ev_else q (bad _ _)
/-! ### plain: the same answer -/
def IsJ (l : List Int) (r : OutJ) : Prop := r = badJ ∨ ∃ kd N L B, r = (kd, N, L, B, 0) ∧ bytesF kd N (L.map prS) B = l ∧ InN N ∧ InS L
theorem spec1_is (l : List Int) (kd : Int) (N : List Int) (hN : InN N) : ∀ (n : Nat) (rest : List Int) (L : List S45), Bytes rest → InS L → IsJ l (spec1 l kd N n rest L)
  | 0, rest, L, hb, hS => by
    unfold spec1 endJ
    by_cases q : (getF rest).2.2 = 0
    · rw [if_pos q]
      by_cases e : bytesF kd N (L.map prS) (getF rest).1 = l
      · rw [if_pos e]
        exact .inr ⟨_, _, _, _, rfl, e, hN, hS⟩
      · rw [if_neg e]; exact .inl rfl
    · rw [if_neg q]; exact .inl rfl
  | n + 1, rest, L, hb, hS => by
    unfold spec1
    by_cases q : rest.length < 6
    · rw [if_pos q]; exact .inl rfl
    · rw [if_neg q]
      exact spec1_is l kd N hN n _ _ (hb.drop 6) (inS_app hS (addr_in (take_b hb 6)))
theorem spec0_is (l : List Int) (kd : Int) : ∀ (n : Nat) (rest N : List Int), Bytes rest → InN N → IsJ l (spec0 l kd n rest N)
  | 0, [], N, hb, hN => .inl rfl
  | 0, c :: rest, N, hb, hN => by
    simp only [spec0, spec2]
    by_cases q : 8 < c
    · rw [if_pos q]; exact .inl rfl
    · rw [if_neg q]
      exact spec1_is l kd N hN _ rest [] (fun x hx => hb x (List.mem_cons_of_mem _ hx)) (fun a ha => by cases ha)
  | n + 1, rest, N, hb, hN => by
    unfold spec0
    by_cases q : (getI rest).2.2 = 0
    · rw [if_pos q]
      have := getI_in hb q
      exact spec0_is l kd n _ _ (hb.drop _) (inN_app hN (by omega) (by omega))
    · rw [if_neg q]; exact .inl rfl
theorem spec1_put (l : List Int) (kd : Int) (N : List Int) : ∀ (L : List AddrP) (acc : List S45) (rest : List Int), Gd L → spec1 l kd N L.length (flatA L ++ rest) acc = endJ l kd N (acc ++ L.map mkS) rest
  | [], acc, rest, _ => by rw [List.map_nil, List.append_nil]; rfl
  | a :: L, acc, rest, h => by
    have ha := h a (by simp)
    have ih := spec1_put l kd N L (acc ++ [mkS a]) rest (fun x hx => h x (by simp [hx]))
    have e2 : (bytesA a ++ (flatA L ++ rest)).take 6 = bytesA a := List.take_left (l₁ := bytesA a)
    have e3 : (bytesA a ++ (flatA L ++ rest)).drop 6 = flatA L ++ rest := List.drop_left (l₁ := bytesA a)
    rw [List.length_cons, flatA_cons]
    unfold spec1
    rw [if_neg (by rw [List.length_append, bytesA_len]; omega), e2, e3, addrV_bytes ha.1 ha.2]
    rw [List.append_assoc] at ih
    exact ih
theorem spec0_put (l : List Int) (kd : Int) : ∀ (N acc rest : List Int), Low N → spec0 l kd N.length (flatN N ++ rest) acc = spec2 l kd (acc ++ N) rest
  | [], acc, rest, _ => by rw [List.append_nil]; rfl
  | v :: N, acc, rest, h => by
    have hv := h v (by simp)
    have ih := spec0_put l kd N (acc ++ [v]) rest (fun x hx => h x (by simp [hx]))
    rw [List.length_cons, flatN_cons]
    unfold spec0
    rw [getI_put v _ hv.1 hv.2]
    dsimp only
    rw [if_pos rfl, Int.toNat_natCast, List.drop_left, ih, List.append_assoc]
    rfl
theorem fromJ_good {l : List Int} {kind : Int} {N : List Int} {L : List AddrP} {B : List Int} (h : Wi.Good l kind N L B) : fromJ l = (kind, N, L.map mkS, B, 0) := by
  obtain ⟨hm, hN, hL, hl⟩ := h
  obtain ⟨h1, h2, h3, h4, h5⟩ := may_split hm
  have hk := numsF_pos (by omega : 0 ≤ numsF kind)
  have eg : getI l = (kind, ((putI kind).length : Int), 0) := by rw [hl]; exact getI_put kind _ (by omega) (by omega)
  have ed : l.drop (putI kind).length = flatN N ++ (putI L.length ++ (flatA L ++ (putI B.length ++ B))) := by rw [hl]; exact List.drop_left
  unfold fromJ
  rw [eg]
  dsimp only
  rw [if_pos ⟨rfl, hk.1, hk.2⟩, Int.toNat_natCast, ed, show (numsF kind).toNat = N.length by omega, spec0_put l kind N [] _ hN, List.nil_append, putI_small (L.length : Int) (by omega) (by omega)]
  show spec2 l kind N ((L.length : Int) :: (flatA L ++ (putI B.length ++ B))) = _
  simp only [spec2]
  rw [if_neg (by omega), Int.toNat_natCast, spec1_put l kind N L [] _ hL, List.nil_append]
  have hf : getF (putI B.length ++ B) = (B, ((putI B.length).length : Int) + B.length, 0) := by
    have e := getF_put B [] (by omega)
    rwa [List.append_nil] at e
  unfold endJ
  rw [hf]
  dsimp only
  rw [if_pos rfl, map_prS, if_pos]
  rw [hl]
  exact if_pos hm
theorem fromJ_eq {l : List Int} (hb : Bytes l) : fromJ l = ((fromF l).1, (fromF l).2.1, (fromF l).2.2.1.map mkS, (fromF l).2.2.2.1, (fromF l).2.2.2.2) := by
  rcases fromF_cases hb with ⟨kd, N, L, B, hg, e⟩ | ⟨hn, e⟩
  · rw [e, fromJ_good hg]
  · rw [e]
    have key : fromJ l = badJ := by
      unfold fromJ
      by_cases q : (getI l).2.2 = 0 ∧ 1 ≤ (getI l).1 ∧ (getI l).1 ≤ 18
      · rw [if_pos q]
        have hin := getI_in hb q.1
        rcases spec0_is l (getI l).1 (numsF (getI l).1).toNat (l.drop (getI l).2.1.toNat) [] (hb.drop _) (fun v hv => by cases hv) with h | ⟨kd, N, L, B, h, hl, hN, hS⟩
        · exact h
        · exfalso
          by_cases hm : mayM kd N (L.map prS) B = true
          · obtain ⟨a1, a2, _⟩ := may_parts hN hS hm
            exact hn kd N (L.map prS) B ⟨hm, a1, a2, by rw [← hl]; exact if_pos hm⟩
          · have : l = [] := by rw [← hl]; exact if_neg hm
            rw [this] at hin
            simp at hin
            omega
      · exact if_neg q
    rw [key]
    rfl
/-! ### WireReads -/
theorem reads_yes {l : List Int} (hb : Bytes l) : Ev (fun k => embrasurelaw05_WireReads.f k l) true := by
  unfold embrasurelaw05_WireReads.f
  refine Ev.bind awake_yes ?_
  refine Ev_if rfl ?_
  by_cases hl : (l.length : Int) > 3000
  · exact Ev_if hl (Ev.now _)
  · refine Ev_else hl ?_
    simp only [Option.bind_some, List.nil_append, List.length_nil, Nat.zero_add]
    refine Ev_if (by omega) ?_
    rw [from_f hb (by omega)]
    simp only [Option.bind_some]
    refine Ev.bind (rfrom_yes hb (by omega)) ?_
    rw [fromJ_eq hb]
    dsimp only
    refine Ev_if rfl ?_
    have hsm : (fromF l).2.1.length ≤ 1000000000 ∧ (fromF l).2.2.1.length ≤ 1000000000 ∧ (fromF l).2.2.2.1.length ≤ 1000000000 := by
      rcases fromF_cases hb with ⟨kd, N, L, B, hg, e⟩ | ⟨_, e⟩
      · obtain ⟨m1, m2, m3, m4, m5⟩ := may_split hg.1
        have m6 := numsF_le kd
        rw [e]
        dsimp only
        omega
      · rw [e]
        decide
    have hs := rsame_yes (fromF l).1 (fromF l).2.1 ((fromF l).2.2.1.map mkS) (fromF l).2.2.2.1 (fromF l).1 (fromF l).2.1 ((fromF l).2.2.1.map mkS) (fromF l).2.2.2.1 hsm.1 (by rw [List.length_map]; exact hsm.2.1) hsm.2.2
    simp only [and_self, decide_true] at hs
    refine Ev.bind hs ?_
    refine Ev_if rfl ?_
    simp only [same_f (by omega : l.length ≤ 140737488355328), Option.bind_some, decide_true, if_true]
    rcases fromF_cases hb with ⟨kd, N, L, B, hg, e⟩ | ⟨_, e⟩
    · rw [e]
      dsimp only
      refine Ev_if rfl ?_
      obtain ⟨m1, m2, m3, m4, m5⟩ := may_split hg.1
      have m6 := numsF_le kd
      have W := wbytes_yes (kind := kd) (N := N) (L := L.map mkS) (B := B) (fun v hv => by have := hg.2.1 v hv; omega) (fun a ha => by
        obtain ⟨x, hx, rfl⟩ := List.mem_map.1 ha
        exact (hg.2.2.1 x hx).1) (by omega) (by rw [List.length_map]; omega)
      rw [map_prS, show bytesF kd N L B = l from (if_pos hg.1).trans hg.2.2.2.symm] at W
      refine Ev.bind W ?_
      rw [same_f (by omega)]
      simp only [Option.bind_some, decide_true]
      exact Ev.now _
    · rw [e]
      exact Ev.now _
theorem reads_pure : embrasurelaw05_WireReads.Pure := by
  intro l h1 h2 h3
  exact (reads_yes (fun x hx => wf_bd (h3 x hx) (by decide) (by decide))).rounds
end Go.Proofs.Ytklcggcejaecdaa.J
