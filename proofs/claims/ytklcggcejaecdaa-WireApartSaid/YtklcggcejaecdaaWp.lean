/-
  wire in plain Lean: the bytes of a message, which bytes are one's, and that fromF reads just these. Conditions: numbers are of their kinds, bytes are bytes.
-/
import Derived.Test.YtklcggcejaecdaaWc
namespace Go.Proofs.Ytklcggcejaecdaa.Wi
open Go.RowKit Go.Shelf Go.Proofs.Ytklcggcejaecdaa.H Go.Proofs.Ytklcggcejaecdaa.Uv Go.Proofs.Ytklcggcejaecdaa.Fr Go.Proofs.YtklcggcejaecdaaW.PrintWords Go.Proofs.YtklcggcejaecdaaW.PrintLast Go.Proofs.YtklcggcejaecdaaW.PrintMore
set_option linter.unusedVariables false
set_option linter.unusedSimpArgs false
def flatN (N : List Int) : List Int := N.flatMap putI
def flatA (L : List AddrP) : List Int := L.flatMap bytesA
def bytesM (kind : Int) (N : List Int) (L : List AddrP) (B : List Int) : List Int := putI kind ++ (flatN N ++ (putI L.length ++ (flatA L ++ (putI B.length ++ B))))
def Low (N : List Int) : Prop := ∀ v ∈ N, 0 ≤ v ∧ v ≤ 9223372036854775807
def Gd (L : List AddrP) : Prop := ∀ a ∈ L, okA a ∧ mayA a = true
theorem may_split {kind : Int} {N : List Int} {L : List AddrP} {B : List Int} (h : mayM kind N L B = true) : (N.length : Int) = numsF kind ∧ L.length ≤ 8 ∧ B.length ≤ 1000 ∧ (∀ v ∈ N, v ≤ 9223372036854775807) ∧ (∀ a ∈ L, mayA a = true) := by
  simp only [mayM, Bool.and_eq_true, decide_eq_true_eq, Bool.not_eq_true', List.any_eq_false] at h
  obtain ⟨⟨h1, h2, h3⟩, h4, h5⟩ := h
  refine ⟨h1, h2, h3, fun v hv => ?_, fun a ha => ?_⟩
  · have := h4 v hv
    simp [badN] at this
    omega
  · have := h5 a ha
    simpa [badA] using this
theorem may_join {kind : Int} {N : List Int} {L : List AddrP} {B : List Int} (h1 : (N.length : Int) = numsF kind) (h2 : L.length ≤ 8) (h3 : B.length ≤ 1000) (h4 : ∀ v ∈ N, v ≤ 9223372036854775807) (h5 : ∀ a ∈ L, mayA a = true) : mayM kind N L B = true := by
  simp only [mayM, Bool.and_eq_true, decide_eq_true_eq, Bool.not_eq_true', List.any_eq_false]
  refine ⟨⟨h1, h2, h3⟩, fun v hv => ?_, fun a ha => ?_⟩
  · have := h4 v hv
    simp [badN]
    omega
  · simp [badA, h5 a ha]
theorem numR_put (v : Int) (r : List Int) (b : Bool) (h0 : 0 ≤ v) (h1 : v ≤ 9223372036854775807) : numR (putI v ++ r) b = (v, r, b) := by
  unfold numR
  rw [getI_put v r h0 h1]
  simp
theorem numsR_put : ∀ (N r : List Int) (b : Bool), Low N → numsR N.length (flatN N ++ r) b = (N, r, b)
  | [], r, b, _ => rfl
  | v :: N, r, b, h => by
    have hv := h v (by simp)
    have ih := numsR_put N r b (fun x hx => h x (by simp [hx]))
    show numsR (N.length + 1) ((putI v ++ flatN N) ++ r) b = _
    rw [List.append_assoc, numsR, numR_put v _ b hv.1 hv.2]
    dsimp only
    rw [ih]
theorem addrsF_put : ∀ (L : List AddrP) (r : List Int) (b : Bool), Gd L → addrsF L.length (flatA L ++ r) b = (L, r, b)
  | [], r, b, _ => rfl
  | a :: L, r, b, h => by
    have ha := h a (by simp)
    have ih := addrsF_put L r b (fun x hx => h x (by simp [hx]))
    have e1 : flatA (a :: L) ++ r = bytesA a ++ (flatA L ++ r) := List.append_assoc _ _ _
    have e2 : (bytesA a ++ (flatA L ++ r)).take 6 = bytesA a := List.take_left (l₁ := bytesA a)
    have e3 : (bytesA a ++ (flatA L ++ r)).drop 6 = flatA L ++ r := List.drop_left (l₁ := bytesA a)
    rw [List.length_cons, e1, addrsF, if_neg (by rw [List.length_append, bytesA_len]; omega), e2, e3, addrV_bytes ha.1 ha.2]
    dsimp only
    have e4 : (b || ((0 : Int) != 0)) = b := by simp
    rw [e4, ih]
theorem bodyR_put (B : List Int) (b : Bool) (h : B.length ≤ 1200) : bodyR (putI B.length ++ B) b = (B, b) := by
  have e := getF_put B [] h
  rw [List.append_nil] at e
  unfold bodyR
  rw [e]
  simp
theorem numsF_pos {kind : Int} (h : 0 ≤ numsF kind) : 1 ≤ kind ∧ kind ≤ 18 := by
  unfold numsF at h
  split at h
  · omega
  · split at h
    · omega
    · omega
theorem fromF_put {kind : Int} {N : List Int} {L : List AddrP} {B : List Int} (hm : mayM kind N L B = true) (hN : Low N) (hL : Gd L) : fromF (bytesM kind N L B) = (kind, N, L, B, 0) := by
  obtain ⟨h1, h2, h3, h4, h5⟩ := may_split hm
  have hk := numsF_pos (by omega : 0 ≤ numsF kind)
  have e1 := numR_put kind (flatN N ++ (putI L.length ++ (flatA L ++ (putI B.length ++ B)))) false (by omega) (by omega)
  have e2 := numsR_put N (putI L.length ++ (flatA L ++ (putI B.length ++ B))) false hN
  have en : (numsF kind).toNat = N.length := by omega
  rw [← en] at e2
  have e3 := numR_put L.length (flatA L ++ (putI B.length ++ B)) false (by omega) (by omega)
  have e4 := addrsF_put L (putI B.length ++ B) false hL
  have e5 := bodyR_put B false (by omega)
  rw [fromF_good (l := bytesM kind N L B) e1 (by omega) e2 e3 (by omega) (by rw [Int.toNat_natCast]; exact e4) e5, if_neg]
  rintro (h | h)
  · cases h
  · rw [hm] at h; cases h
theorem numR_ok {l r : List Int} {v : Int} {b : Bool} (hb : Bytes l) (h : numR l b = (v, r, false)) : b = false ∧ l = putI v ++ r ∧ 0 ≤ v ∧ v ≤ 9223372036854775807 := by
  unfold numR at h
  obtain ⟨h1, h2⟩ := Prod.mk.inj h
  obtain ⟨h2, h3⟩ := Prod.mk.inj h2
  obtain ⟨hb1, hc⟩ := Bool.or_eq_false_iff.1 h3
  have hc : (getI l).2.2 = 0 := by simpa using hc
  obtain ⟨⟨a, c, e⟩, hg⟩ : ∃ q, getI l = q := ⟨_, rfl⟩
  rw [hg] at h1 h2 hc
  dsimp only at h1 h2 hc
  subst h1 hc
  obtain ⟨g0, g1, q, g2, g3⟩ := getI_ok l a c hb hg
  refine ⟨hb1, ?_, g0, g1⟩
  have h6 : l.drop (putI a).length = q := by
    rw [show l.drop (putI a).length = (putI a ++ q).drop (putI a).length from congrArg (List.drop (putI a).length) g2, List.drop_left]
  rw [g3, Int.toNat_natCast, h6] at h2
  rw [← h2]
  exact g2
theorem numsR_ok : ∀ (n : Nat) {l r N : List Int} {b : Bool}, Bytes l → numsR n l b = (N, r, false) → b = false ∧ l = flatN N ++ r ∧ N.length = n ∧ Low N
  | 0, l, r, N, b, hb, h => by
    simp only [numsR, Prod.mk.injEq] at h
    obtain ⟨rfl, rfl, rfl⟩ := h
    exact ⟨rfl, rfl, rfl, fun v hv => by cases hv⟩
  | n + 1, l, r, N, b, hb, h => by
    simp only [numsR] at h
    obtain ⟨h1, h2⟩ := Prod.mk.inj h
    obtain ⟨⟨v, x, c⟩, e1⟩ : ∃ q, numR l b = q := ⟨_, rfl⟩
    rw [e1] at h1 h2
    dsimp only at h1 h2
    obtain ⟨⟨M, y, d⟩, e2⟩ : ∃ q, numsR n x c = q := ⟨_, rfl⟩
    rw [e2] at h1 h2
    dsimp only at h1 h2
    obtain ⟨rfl, rfl⟩ := Prod.mk.inj h2
    subst h1
    have hx : Bytes x := by have := (numR_in (b := b) hb).2.1; rwa [e1] at this
    obtain ⟨i1, i2, i3, i4⟩ := numsR_ok n hx e2
    subst i1
    obtain ⟨j1, j2, j3, j4⟩ := numR_ok hb e1
    refine ⟨j1, ?_, by rw [List.length_cons, i3], ?_⟩
    · rw [j2, i2]
      exact (List.append_assoc _ _ _).symm
    · intro u hu
      rcases List.mem_cons.1 hu with rfl | hu
      · exact ⟨j3, j4⟩
      · exact i4 u hu
theorem addrsF_ok : ∀ (n : Nat) {l r : List Int} {L : List AddrP} {b : Bool}, Bytes l → addrsF n l b = (L, r, false) → b = false ∧ l = flatA L ++ r ∧ L.length = n ∧ Gd L
  | 0, l, r, L, b, hb, h => by
    simp only [addrsF, Prod.mk.injEq] at h
    obtain ⟨rfl, rfl, rfl⟩ := h
    exact ⟨rfl, rfl, rfl, fun v hv => by cases hv⟩
  | n + 1, l, r, L, b, hb, h => by
    unfold addrsF at h
    by_cases h6 : l.length < 6
    · rw [if_pos h6] at h; simp at h
    · rw [if_neg h6] at h
      obtain ⟨⟨p, q, e⟩, e1⟩ : ∃ z, addrV (l.take 6) = z := ⟨_, rfl⟩
      rw [e1] at h
      dsimp only at h
      obtain ⟨⟨M, y, d⟩, e2⟩ : ∃ z, addrsF n (l.drop 6) (b || e != 0) = z := ⟨_, rfl⟩
      rw [e2] at h
      dsimp only at h
      obtain ⟨rfl, h2⟩ := Prod.mk.inj h
      obtain ⟨rfl, rfl⟩ := Prod.mk.inj h2
      obtain ⟨i1, i2, i3, i4⟩ := addrsF_ok n (hb.drop 6) e2
      obtain ⟨b1, b2⟩ := Bool.or_eq_false_iff.1 i1
      have he : e = 0 := by simpa using b2
      subst he
      obtain ⟨j1, j2, j3⟩ := addrV_ok (fun x hx => hb x (List.mem_of_mem_take hx)) e1
      refine ⟨b1, ?_, by rw [List.length_cons, i3], ?_⟩
      · rw [show l = l.take 6 ++ l.drop 6 from (List.take_append_drop 6 l).symm, ← j1, i2]
        exact (List.append_assoc _ _ _).symm
      · intro u hu
        rcases List.mem_cons.1 hu with rfl | hu
        · exact ⟨j3, j2⟩
        · exact i4 u hu
theorem getF_ok {b t : List Int} {k : Int} (hb : Bytes b) (h : getF b = (t, k, 0)) : 0 ≤ k ∧ b = (putI t.length ++ t) ++ b.drop k.toNat ∧ k.toNat ≤ b.length ∧ t.length ≤ 1200 ∧ Bytes t := by
  have hin := getF_in hb (by rw [h])
  rw [h] at hin
  dsimp only at hin
  refine ⟨by omega, ?_, by omega, hin.2.2⟩
  by_cases h0 : (getI b).2.2 = 0
  · obtain ⟨h1, h2, h3, h4, h5⟩ := getI_in hb h0
    by_cases hv : 1200 < (getI b).1
    · rw [getF_long h0 hv] at h; cases h
    · by_cases hs : (b.length : Int) - (getI b).2.1 < (getI b).1
      · rw [getF_short h0 hv hs] at h; cases h
      · rw [getF_good h0 hv hs] at h
        obtain ⟨rfl, rfl, _⟩ := Prod.mk.inj h |>.imp id Prod.mk.inj
        obtain ⟨_, _, r, hr, hk⟩ := getI_ok b (getI b).1 (getI b).2.1 hb (by rw [← h0])
        have hlen : ((b.drop (getI b).2.1.toNat).take (getI b).1.toNat).length = (getI b).1.toNat := by rw [List.length_take, List.length_drop]; omega
        have e1 : (((b.drop (getI b).2.1.toNat).take (getI b).1.toNat).length : Int) = (getI b).1 := by rw [hlen]; omega
        rw [e1]
        obtain ⟨m, hm⟩ : ∃ m, (putI (getI b).1).length = m := ⟨_, rfl⟩
        have e2 : (getI b).2.1.toNat = m := by omega
        have e3 : ((getI b).2.1 + (getI b).1).toNat = m + (getI b).1.toNat := by omega
        have e4 : b.take m = putI (getI b).1 := by
          conv => lhs; rw [hr]
          rw [← hm, List.take_left]
        rw [e2, e3, ← List.drop_drop, List.append_assoc, List.take_append_drop, ← e4, List.take_append_drop]
  · rw [getF_bad h0] at h
    exact absurd (Prod.mk.inj (Prod.mk.inj h).2).2 h0
theorem bodyR_ok {l B : List Int} {b : Bool} (hb : Bytes l) (h : bodyR l b = (B, false)) : b = false ∧ l = putI B.length ++ B ∧ B.length ≤ 1200 := by
  unfold bodyR at h
  obtain ⟨⟨t, k, e⟩, hF⟩ : ∃ q, getF l = q := ⟨_, rfl⟩
  rw [hF] at h
  dsimp only at h
  obtain ⟨ht, hh⟩ := Prod.mk.inj h
  subst ht
  obtain ⟨h1, hz⟩ := Bool.or_eq_false_iff.1 hh
  obtain ⟨h2, h3⟩ := Bool.or_eq_false_iff.1 hz
  have he : e = 0 := by simpa using h2
  have hk : k = l.length := by simpa using h3
  subst he
  obtain ⟨g0, g1, g2, g3, g4⟩ := getF_ok hb hF
  refine ⟨h1, ?_, g3⟩
  rw [hk, Int.toNat_natCast, List.drop_length, List.append_nil] at g1
  exact g1
/-- Which bytes a message's are. -/
def Good (l : List Int) (kind : Int) (N : List Int) (L : List AddrP) (B : List Int) : Prop := mayM kind N L B = true ∧ Low N ∧ Gd L ∧ l = bytesM kind N L B
theorem Good.from {l : List Int} {kind : Int} {N : List Int} {L : List AddrP} {B : List Int} (h : Good l kind N L B) : fromF l = (kind, N, L, B, 0) := by
  rw [h.2.2.2]
  exact fromF_put h.1 h.2.1 h.2.2.1
theorem fromF_ok {l : List Int} (hb : Bytes l) : fromF l = badF ∨ ∃ kind N L B, Good l kind N L B ∧ fromF l = (kind, N, L, B, 0) := by
  obtain ⟨⟨kd, x0, b0⟩, e1⟩ : ∃ q, numR l false = q := ⟨_, rfl⟩
  by_cases c1 : b0 = true ∨ 18 < kd
  · left
    unfold fromF
    rw [e1]
    exact if_pos c1
  obtain ⟨⟨T1, T2, T3⟩, e2⟩ : ∃ q, numsR (numsF kd).toNat x0 false = q := ⟨_, rfl⟩
  obtain ⟨⟨qv, x2, b2⟩, e3⟩ : ∃ q, numR T2 T3 = q := ⟨_, rfl⟩
  by_cases c2 : b2 = true ∨ 8 < qv
  · left
    unfold fromF
    rw [e1]
    dsimp only
    rw [if_neg c1, e2]
    dsimp only
    rw [e3]
    exact if_pos c2
  obtain ⟨⟨L, x3, b3⟩, e4⟩ : ∃ q, addrsF qv.toNat x2 false = q := ⟨_, rfl⟩
  obtain ⟨⟨t3, bo⟩, e5⟩ : ∃ q, bodyR x3 b3 = q := ⟨_, rfl⟩
  have hb0 : b0 = false := by cases b0 with
    | false => rfl
    | true => exact absurd (.inl rfl) c1
  have hb2 : b2 = false := by cases b2 with
    | false => rfl
    | true => exact absurd (.inl rfl) c2
  subst hb0 hb2
  have hk : kd ≤ 18 := Int.not_lt.1 fun h => c1 (.inr h)
  have hq : qv ≤ 8 := Int.not_lt.1 fun h => c2 (.inr h)
  have E := fromF_good e1 hk e2 e3 hq e4 e5
  by_cases c3 : bo = true ∨ mayM kd T1 L t3 = false
  · left
    rw [E, if_pos c3]
  · right
    rw [if_neg c3] at E
    have hbo : bo = false := by cases bo with
      | false => rfl
      | true => exact absurd (.inl rfl) c3
    have hm : mayM kd T1 L t3 = true := by cases hh : mayM kd T1 L t3 with
      | true => rfl
      | false => exact absurd (.inr hh) c3
    subst hbo
    have hx0 : Bytes x0 := by have := (numR_in (b := false) hb).2.1; rwa [e1] at this
    have hT2 : Bytes T2 := by have := (numsR_in (numsF kd).toNat (b := false) hx0).2.2.1; rwa [e2] at this
    have hx2 : Bytes x2 := by have := (numR_in (b := T3) hT2).2.1; rwa [e3] at this
    have hx3 : Bytes x3 := by have := (addrsF_in qv.toNat (b := false) hx2).2.2.1; rwa [e4] at this
    obtain ⟨a1, a2, a3⟩ := bodyR_ok hx3 e5
    subst a1
    obtain ⟨_, c2', c3', c4'⟩ := addrsF_ok qv.toNat hx2 e4
    obtain ⟨d1, d2, d3, d4⟩ := numR_ok hT2 e3
    subst d1
    obtain ⟨_, f2, f3, f4⟩ := numsR_ok _ hx0 e2
    obtain ⟨_, g2, g3, g4⟩ := numR_ok hb e1
    refine ⟨kd, T1, L, t3, ⟨hm, f4, c4', ?_⟩, E⟩
    have hL : (L.length : Int) = qv := by omega
    rw [g2, f2, d2, c2', a2]
    unfold bytesM
    rw [hL]
theorem badF_no {kind : Int} {N : List Int} {L : List AddrP} {B : List Int} (h : badF = (kind, N, L, B, 0)) : False := by
  have h2 : (3 : Int) = 0 := congrArg (fun x : Int × List Int × List AddrP × List Int × Int => x.2.2.2.2) h
  omega
theorem fromF_cases {l : List Int} (hb : Bytes l) : (∃ kind N L B, Good l kind N L B ∧ fromF l = (kind, N, L, B, 0)) ∨ ((∀ kind N L B, ¬ Good l kind N L B) ∧ fromF l = badF) := by
  rcases fromF_ok hb with h | h
  · exact .inr ⟨fun kind N L B g => badF_no (h.symm.trans g.from), h⟩
  · exact .inl h
theorem flatA_len : ∀ (L : List AddrP), (flatA L).length = 6 * L.length
  | [] => rfl
  | a :: L => by
    have e1 : flatA (a :: L) = bytesA a ++ flatA L := rfl
    rw [e1, List.length_append, bytesA_len, flatA_len L, List.length_cons]
    omega
theorem flatN_len : ∀ (N : List Int), (flatN N).length ≤ 9 * N.length
  | [] => Nat.le_refl _
  | a :: N => by
    have e1 : flatN (a :: N) = putI a ++ flatN N := rfl
    have h9 := putI_len_le a
    have ih := flatN_len N
    rw [e1, List.length_append, List.length_cons]
    omega
theorem flatN_bytes {N : List Int} (h : Low N) : Bytes (flatN N) := by
  intro x hx
  obtain ⟨v, hv, hx⟩ := List.mem_flatMap.1 hx
  exact putI_bytes v (h v hv).1 x hx
theorem flatA_bytes (L : List AddrP) : Bytes (flatA L) := by
  intro x hx
  obtain ⟨v, hv, hx⟩ := List.mem_flatMap.1 hx
  exact bytesA_bytes v x hx
theorem bytesM_bytes {kind : Int} {N : List Int} {L : List AddrP} {B : List Int} (hk : 0 ≤ kind) (hN : Low N) (hB : Bytes B) : Bytes (bytesM kind N L B) :=
  Bytes.app (putI_bytes kind hk) (Bytes.app (flatN_bytes hN) (Bytes.app (putI_bytes _ (by omega)) (Bytes.app (flatA_bytes L) (Bytes.app (putI_bytes _ (by omega)) hB))))
theorem bytesM_len {kind : Int} {N : List Int} {L : List AddrP} {B : List Int} (hm : mayM kind N L B = true) : (bytesM kind N L B).length ≤ 2000 := by
  obtain ⟨h1, h2, h3, h4, h5⟩ := may_split hm
  have h6 := numsF_le kind
  have a1 := putI_len_le kind
  have a2 := flatN_len N
  have a3 := putI_len_le L.length
  have a4 := flatA_len L
  have a5 := putI_len_le B.length
  unfold bytesM
  simp only [List.length_append]
  omega
theorem putI_small (v : Int) (h0 : 0 ≤ v) (h1 : v < 128) : putI v = [v] := by
  rw [putI_enc v 0 h0 (by omega) (by have : pw (0 + 1) = 128 := rfl; omega)]
  rfl
theorem putI_pos (v : Int) (h1 : v ≤ 9223372036854775807) : 1 ≤ (putI v).length := by
  have := enc_ne 8 v
  unfold putI
  rw [if_pos h1]
  cases hq : enc 8 v with
  | nil => exact absurd hq this
  | cons x xs => simp
end Go.Proofs.Ytklcggcejaecdaa.Wi
