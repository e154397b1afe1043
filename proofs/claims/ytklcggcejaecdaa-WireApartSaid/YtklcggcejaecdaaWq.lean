/-
  What the printed functions of package wire, and of its reference, come to. Conditions: numbers are of their kinds.
-/
import Derived.Test.YtklcggcejaecdaaWp
import Derived.Test.YtklcggcejaecdaaJx2
import Derived.Test.YtklcggcejaecdaaJx3
import Derived.Test.YtklcggcejaecdaaJx4
namespace Go.Proofs.Ytklcggcejaecdaa.J
open Go.RowKit Go.Shelf Go.Proofs.Ytklcggcejaecdaa.Wi Go.Proofs.Ytklcggcejaecdaa.Uv Go.Proofs.Ytklcggcejaecdaa.Fr Go.Proofs.YtklcggcejaecdaaW.PrintWords Go.Proofs.YtklcggcejaecdaaW.PrintLast Go.Proofs.YtklcggcejaecdaaW.PrintMore
set_option linter.unusedVariables false
set_option linter.unusedSimpArgs false
def InS (L : List S45) : Prop := ∀ a ∈ L, okA (prS a)
def InN (N : List Int) : Prop := ∀ v ∈ N, 0 ≤ v ∧ v ≤ 18446744073709551615
theorem wmay_f {kind : Int} {N : List Int} {L : List S45} {B : List Int} (hN : InN N) (hL : InS L) (h1 : N.length ≤ 1000000000) (h2 : L.length ≤ 1000000000) : wire_May.f kind N L B = some (mayM kind N (L.map prS) B) := by
  unfold wire_May.f
  rw [if_pos ⟨⟨hN, hL⟩, h1, h2⟩]
theorem rdT_get (l : List S45) (i : Nat) (h : i < l.length) : rd_T45 l (i : Int) = l[i] := by simp [rd_T45, List.getD_eq_getElem?_getD, h]
theorem flatA_cons (a : AddrP) (L : List AddrP) (r : List Int) : flatA (a :: L) ++ r = bytesA a ++ (flatA L ++ r) := List.append_assoc _ _ _
theorem flatN_cons (a : Int) (L : List Int) (r : List Int) : flatN (a :: L) ++ r = putI a ++ (flatN L ++ r) := List.append_assoc _ _ _
theorem abytes_f (x : S45) (h : okA (prS x)) (hm : mayA (prS x) = true) : addr_Bytes.f x.f0 x.f1 = some (bytesA (prS x)) := by
  exact (if_pos h).trans (congrArg some (if_pos hm))
theorem rabytes_f (x : S45) (h : okA (prS x)) (hm : mayA (prS x) = true) : embrasureref03_Bytes.f x.f0 x.f1 = some (bytesA (prS x)) := by
  exact (if_pos h).trans (congrArg some (if_pos hm))
theorem ramay_f (x : S45) (h : okA (prS x)) : embrasureref03_May.f x.f0 x.f1 = some (mayA (prS x)) := by
  exact if_pos h
theorem uput_f (v : Int) (h0 : 0 ≤ v) (h1 : v ≤ 18446744073709551615) : uvar_Put.f v = some (putI v) := if_pos ⟨h0, h1⟩
theorem ruput_f (v : Int) (h0 : 0 ≤ v) : embrasureref01_Put.f v = some (putI v) := if_pos h0
theorem fput_f (B : List Int) (h : B.length ≤ 1200) : frame_Put.f B = some (putI B.length ++ B, 0) := if_pos h
theorem rfput_f (B : List Int) (h : B.length ≤ 1200) : embrasureref02_Put.f B = some (putI B.length ++ B, 0) := if_pos h
theorem wu (n : Nat) (h : n ≤ 1000000000) : IntKind.u64.wrap (n : Int) = n := by rw [IntKind.wrap_u64]; omega
/-! ### wire.Bytes -/
theorem wb_l1 (kind : Int) (N : List Int) (L : List S45) (B : List Int) (hg : Gd (L.map prS)) (hl : L.length ≤ 8) (hB : B.length ≤ 1000) (d : Nat) : ∀ (i : Nat) (acc : List Int), i + d = L.length → acc.length + 6 * d ≤ 3000 → Ev (fun k => wire_Bytes.l1 k acc L (L.length : Int) i kind N L B) (acc ++ (flatA ((L.drop i).map prS) ++ (putI B.length ++ B))) := by
  induction d with
  | zero =>
    intro i acc hi ha
    rw [List.drop_eq_nil_of_le (by omega)]
    refine Ev.step (f := fun _ => some (acc ++ (putI B.length ++ B))) (fun k => ?_) (Ev.now _)
    simp only [wire_Bytes.l1]
    have h9 := putI_len_le (B.length : Int)
    rw [if_neg (by omega), fput_f B (by omega), Option.bind_some]
    dsimp only
    rw [if_pos (by rw [List.length_append]; omega)]
  | succ d ih =>
    intro i acc hi ha
    have h1 : i < L.length := by omega
    have hx := hg (prS L[i]) (List.mem_map.2 ⟨_, List.getElem_mem h1, rfl⟩)
    rw [List.drop_eq_getElem_cons h1, List.map_cons, flatA_cons]
    refine Ev.step (f := fun k => wire_Bytes.l1 k (acc ++ bytesA (prS L[i])) L (L.length : Int) ((i + 1 : Nat) : Int) kind N L B) (fun k => ?_) ?_
    · simp only [wire_Bytes.l1]
      rw [if_pos (by omega), if_pos (by omega), if_pos (by omega), rdT_get L i h1, abytes_f L[i] hx.1 hx.2, Option.bind_some, if_pos (by rw [bytesA_len]; omega), wr _ (by omega) (by omega)]
      rfl
    · have := ih (i + 1) (acc ++ bytesA (prS L[i])) (by omega) (by rw [List.length_append, bytesA_len]; omega)
      rw [List.append_assoc] at this
      exact this
theorem wb_l0 (kind : Int) (N : List Int) (L : List S45) (B : List Int) (hN : Low N) (hg : Gd (L.map prS)) (hl : L.length ≤ 8) (hB : B.length ≤ 1000) (hn : N.length ≤ 6) (d : Nat) : ∀ (i : Nat) (acc : List Int), i + d = N.length → acc.length + 9 * d ≤ 1000 → Ev (fun k => wire_Bytes.l0 k acc N (N.length : Int) i kind N L B) (acc ++ (flatN (N.drop i) ++ (putI L.length ++ (flatA (L.map prS) ++ (putI B.length ++ B))))) := by
  induction d with
  | zero =>
    intro i acc hi ha
    rw [List.drop_eq_nil_of_le (by omega)]
    have h9 := putI_len_le (L.length : Int)
    refine Ev.step (f := fun k => wire_Bytes.l1 k (acc ++ putI L.length) L (L.length : Int) ((0 : Nat) : Int) kind N L B) (fun k => ?_) ?_
    · simp only [wire_Bytes.l0]
      rw [if_neg (by omega), wu _ (by omega), uput_f _ (by omega) (by omega), Option.bind_some, if_pos (by omega)]
      rfl
    · have := wb_l1 kind N L B hg hl hB L.length 0 (acc ++ putI L.length) (by omega) (by rw [List.length_append]; omega)
      rw [List.append_assoc, List.drop_zero] at this
      exact this
  | succ d ih =>
    intro i acc hi ha
    have h1 : i < N.length := by omega
    have hx := hN N[i] (List.getElem_mem h1)
    have h9 := putI_len_le N[i]
    rw [List.drop_eq_getElem_cons h1, flatN_cons]
    refine Ev.step (f := fun k => wire_Bytes.l0 k (acc ++ putI N[i]) N (N.length : Int) ((i + 1 : Nat) : Int) kind N L B) (fun k => ?_) ?_
    · simp only [wire_Bytes.l0]
      rw [if_pos (by omega), if_pos (by omega), if_pos (by omega), rd_get N i h1, uput_f _ (by omega) (by omega), Option.bind_some, if_pos (by omega), wr _ (by omega) (by omega)]
      rfl
    · have := ih (i + 1) (acc ++ putI N[i]) (by omega) (by rw [List.length_append]; omega)
      rw [List.append_assoc] at this
      exact this
def bytesF (kind : Int) (N : List Int) (L : List AddrP) (B : List Int) : List Int := if mayM kind N L B = true then bytesM kind N L B else []
theorem may_parts {kind : Int} {N : List Int} {L : List S45} {B : List Int} (hN : InN N) (hL : InS L) (h : mayM kind N (L.map prS) B = true) : Low N ∧ Gd (L.map prS) ∧ L.length ≤ 8 ∧ B.length ≤ 1000 ∧ N.length ≤ 6 ∧ 1 ≤ kind ∧ kind ≤ 18 := by
  obtain ⟨h1, h2, h3, h4, h5⟩ := may_split h
  rw [List.length_map] at h2
  have := numsF_le kind
  have hk := numsF_pos (by omega : 0 ≤ numsF kind)
  refine ⟨fun v hv => ⟨(hN v hv).1, h4 v hv⟩, fun a ha => ⟨?_, h5 a ha⟩, h2, h3, by omega, hk⟩
  obtain ⟨x, hx, rfl⟩ := List.mem_map.1 ha
  exact hL x hx
theorem wbytes_yes {kind : Int} {N : List Int} {L : List S45} {B : List Int} (hN : InN N) (hL : InS L) (h1 : N.length ≤ 1000000000) (h2 : L.length ≤ 1000000000) : Ev (fun k => wire_Bytes.f k kind N L B) (bytesF kind N (L.map prS) B) := by
  unfold bytesF
  by_cases h : mayM kind N (L.map prS) B = true
  · obtain ⟨a1, a2, a3, a4, a5, a6, a7⟩ := may_parts hN hL h
    rw [if_pos h]
    have h9 := putI_len_le kind
    have := wb_l0 kind N L B a1 a2 a3 a4 a5 N.length 0 (putI kind) (by omega) (by omega)
    rw [List.drop_zero] at this
    unfold bytesM
    rw [List.length_map]
    refine Ev.congr (fun k => ?_) this
    unfold wire_Bytes.f
    rw [wmay_f hN hL h1 h2, Option.bind_some, if_pos h, IntKind.wrap_u64, show kind % 18446744073709551616 = kind by omega, uput_f _ (by omega) (by omega), Option.bind_some]
    rfl
  · rw [if_neg h]
    refine Ev.congr (f := fun _ => some []) (fun k => ?_) (Ev.now _)
    unfold wire_Bytes.f
    rw [wmay_f hN hL h1 h2, Option.bind_some, if_neg h]
theorem awake_yes : Ev (fun k => embrasurelaw05_awake.f k) true := by
  obtain ⟨K, h⟩ := wbytes_yes (kind := 5) (N := [300]) (L := []) (B := []) (fun v hv => by simp at hv; omega) (fun a ha => by cases ha) (by simp) (by simp)
  have e : bytesF 5 [300] (([] : List S45).map prS) [] = [5, 172, 2, 0, 0] := by decide
  rw [e] at h
  refine ⟨K, fun k hk => ?_⟩
  unfold embrasurelaw05_awake.f
  exact if_pos (h k hk)
/-! ### the reference's functions -/
theorem rnums_yes (a : Int) : Ev (fun k => embrasureref05_Nums.f k a) (numsF a) := by
  have h : ∀ k, embrasureref05_Nums.f (k + 5) a = some (numsF a) := by
    intro k
    by_cases hr : 1 ≤ a ∧ a ≤ 18
    · have hc : a = 1 ∨ a = 2 ∨ a = 3 ∨ a = 4 ∨ a = 5 ∨ a = 6 ∨ a = 7 ∨ a = 8 ∨ a = 9 ∨ a = 10 ∨ a = 11 ∨ a = 12 ∨ a = 13 ∨ a = 14 ∨ a = 15 ∨ a = 16 ∨ a = 17 ∨ a = 18 := by omega
      rcases hc with rfl | rfl | rfl | rfl | rfl | rfl | rfl | rfl | rfl | rfl | rfl | rfl | rfl | rfl | rfl | rfl | rfl | rfl <;> simp [embrasureref05_Nums.f, embrasureref05_Nums.j0, embrasureref05_Nums.j1, embrasureref05_Nums.j2, embrasureref05_Nums.j3] <;> rfl
    · have e : numsF a = -1 := by
        unfold numsF
        split
        · rfl
        · rw [if_pos (by omega)]
      rw [e]
      have g1 : a ≠ 1 := by omega
      have g2 : a ≠ 2 := by omega
      have g3 : a ≠ 3 := by omega
      have g4 : a ≠ 4 := by omega
      have g5 : a ≠ 5 := by omega
      have g6 : a ≠ 6 := by omega
      have g7 : a ≠ 7 := by omega
      have g8 : a ≠ 8 := by omega
      have g9 : a ≠ 9 := by omega
      have g10 : a ≠ 10 := by omega
      have g11 : a ≠ 11 := by omega
      have g12 : a ≠ 12 := by omega
      have g13 : a ≠ 13 := by omega
      have g14 : a ≠ 14 := by omega
      have g15 : a ≠ 15 := by omega
      have g16 : a ≠ 16 := by omega
      have g17 : a ≠ 17 := by omega
      have g18 : a ≠ 18 := by omega
      simp [embrasureref05_Nums.f, embrasureref05_Nums.j0, embrasureref05_Nums.j1, embrasureref05_Nums.j2, embrasureref05_Nums.j3, *]
  refine ⟨5, fun k hk => ?_⟩
  obtain ⟨m, rfl⟩ : ∃ m, k = m + 5 := ⟨k - 5, by omega⟩
  exact h m
theorem rm_l1 (kind : Int) (N : List Int) (L : List S45) (B : List Int) (hL : InS L) (hl : L.length ≤ 1000000000) (d : Nat) : ∀ (i : Nat), i + d = L.length → Ev (fun k => embrasureref05_May.l1 k i kind N L B) (!((L.drop i).map prS).any badA && decide ((N.length : Int) = numsF kind ∧ L.length ≤ 8 ∧ B.length ≤ 1000)) := by
  induction d with
  | zero =>
    intro i hi
    rw [List.drop_eq_nil_of_le (by omega)]
    refine Ev.step (f := fun k => (embrasureref05_Nums.f k kind).bind fun t => if (N.length : Int) = t then (if (L.length : Int) ≤ 8 then (some (decide ((B.length : Int) ≤ 1000))) else (some false)) else (some false)) (fun k => ?_) (Ev.bind (rnums_yes kind) ?_)
    · simp only [embrasureref05_May.l1]
      rw [if_neg (by omega)]
    · refine Ev.congr (f := fun _ => some _) (fun k => ?_) (Ev.now _)
      by_cases q1 : (N.length : Int) = numsF kind
      · by_cases q2 : L.length ≤ 8
        · rw [if_pos q1, if_pos (by omega)]
          simp [q1, q2]
          omega
        · rw [if_pos q1, if_neg (by omega)]
          simp [q1, q2]
      · rw [if_neg q1]
        simp [q1]
  | succ d ih =>
    intro i hi
    have h1 : i < L.length := by omega
    have hx := hL L[i] (List.getElem_mem h1)
    rw [List.drop_eq_getElem_cons h1, List.map_cons, List.any_cons]
    by_cases hm : mayA (prS L[i]) = true
    · refine Ev.step (f := fun k => embrasureref05_May.l1 k ((i + 1 : Nat) : Int) kind N L B) (fun k => ?_) ?_
      · simp only [embrasureref05_May.l1]
        rw [if_pos (by omega), if_pos (by omega), rdT_get L i h1, ramay_f _ hx, Option.bind_some, if_pos hm, wr _ (by omega) (by omega)]
        rfl
      · have := ih (i + 1) (by omega)
        rw [show badA (prS L[i]) = false by simp [badA, hm], Bool.false_or]
        exact this
    · refine Ev.step (f := fun _ => some false) (fun k => ?_) ?_
      · simp only [embrasureref05_May.l1]
        rw [if_pos (by omega), if_pos (by omega), rdT_get L i h1, ramay_f _ hx, Option.bind_some, if_neg hm]
      · rw [show badA (prS L[i]) = true by simp [badA, hm], Bool.true_or]
        exact Ev.now _
theorem rm_l0 (kind : Int) (N : List Int) (L : List S45) (B : List Int) (hN : InN N) (hL : InS L) (hn : N.length ≤ 1000000000) (hl : L.length ≤ 1000000000) (d : Nat) : ∀ (i : Nat), i + d = N.length → Ev (fun k => embrasureref05_May.l0 k i kind N L B) (!(N.drop i).any badN && (!(L.map prS).any badA && decide ((N.length : Int) = numsF kind ∧ L.length ≤ 8 ∧ B.length ≤ 1000))) := by
  induction d with
  | zero =>
    intro i hi
    rw [List.drop_eq_nil_of_le (by omega)]
    refine Ev.step (f := fun k => embrasureref05_May.l1 k ((0 : Nat) : Int) kind N L B) (fun k => ?_) ?_
    · simp only [embrasureref05_May.l0]
      rw [if_neg (by omega)]
      rfl
    · exact rm_l1 kind N L B hL hl L.length 0 (by omega)
  | succ d ih =>
    intro i hi
    have h1 : i < N.length := by omega
    rw [List.drop_eq_getElem_cons h1, List.any_cons]
    by_cases hm : 9223372036854775807 < N[i]
    · refine Ev.step (f := fun _ => some false) (fun k => ?_) ?_
      · simp only [embrasureref05_May.l0]
        rw [if_pos (by omega), if_pos (by omega), rd_get N i h1, if_pos hm]
      · rw [show badN N[i] = true by simp [badN, hm], Bool.true_or]
        exact Ev.now _
    · refine Ev.step (f := fun k => embrasureref05_May.l0 k ((i + 1 : Nat) : Int) kind N L B) (fun k => ?_) ?_
      · simp only [embrasureref05_May.l0]
        rw [if_pos (by omega), if_pos (by omega), rd_get N i h1, if_neg hm, wr _ (by omega) (by omega)]
        rfl
      · have := ih (i + 1) (by omega)
        rw [show badN N[i] = false by simp [badN]; omega, Bool.false_or]
        exact this
theorem rmay_yes {kind : Int} {N : List Int} {L : List S45} {B : List Int} (hN : InN N) (hL : InS L) (hn : N.length ≤ 1000000000) (hl : L.length ≤ 1000000000) : Ev (fun k => embrasureref05_May.f k kind N L B) (mayM kind N (L.map prS) B) := by
  have := rm_l0 kind N L B hN hL hn hl N.length 0 (by omega)
  rw [List.drop_zero] at this
  have e : mayM kind N (L.map prS) B = (!N.any badN && (!(L.map prS).any badA && decide ((N.length : Int) = numsF kind ∧ L.length ≤ 8 ∧ B.length ≤ 1000))) := by
    unfold mayM
    rw [List.length_map]
    generalize decide ((N.length : Int) = numsF kind ∧ L.length ≤ 8 ∧ B.length ≤ 1000) = x
    cases N.any badN <;> cases (L.map prS).any badA <;> cases x <;> rfl
  rw [e]
  exact this
theorem rb_l1 (kind : Int) (N : List Int) (L : List S45) (B : List Int) (hg : Gd (L.map prS)) (hl : L.length ≤ 8) (hB : B.length ≤ 1000) (d : Nat) : ∀ (i : Nat) (acc : List Int), i + d = L.length → acc.length + 6 * d ≤ 3000 → Ev (fun k => embrasureref05_Bytes.l1 k acc i kind N L B) (acc ++ (flatA ((L.drop i).map prS) ++ (putI B.length ++ B))) := by
  induction d with
  | zero =>
    intro i acc hi ha
    rw [List.drop_eq_nil_of_le (by omega)]
    refine Ev.step (f := fun _ => some (acc ++ (putI B.length ++ B))) (fun k => ?_) (Ev.now _)
    simp only [embrasureref05_Bytes.l1]
    have h9 := putI_len_le (B.length : Int)
    rw [if_neg (by omega), rfput_f B (by omega), Option.bind_some]
    dsimp only
    rw [if_pos (by rw [List.length_append]; omega)]
  | succ d ih =>
    intro i acc hi ha
    have h1 : i < L.length := by omega
    have hx := hg (prS L[i]) (List.mem_map.2 ⟨_, List.getElem_mem h1, rfl⟩)
    rw [List.drop_eq_getElem_cons h1, List.map_cons, flatA_cons]
    refine Ev.step (f := fun k => embrasureref05_Bytes.l1 k (acc ++ bytesA (prS L[i])) ((i + 1 : Nat) : Int) kind N L B) (fun k => ?_) ?_
    · simp only [embrasureref05_Bytes.l1]
      rw [if_pos (by omega), if_pos (by omega), rdT_get L i h1, rabytes_f L[i] hx.1 hx.2, Option.bind_some, if_pos (by rw [bytesA_len]; omega), wr _ (by omega) (by omega)]
      rfl
    · have := ih (i + 1) (acc ++ bytesA (prS L[i])) (by omega) (by rw [List.length_append, bytesA_len]; omega)
      rw [List.append_assoc] at this
      exact this
theorem rb_l0 (kind : Int) (N : List Int) (L : List S45) (B : List Int) (hN : Low N) (hg : Gd (L.map prS)) (hl : L.length ≤ 8) (hB : B.length ≤ 1000) (hn : N.length ≤ 6) (d : Nat) : ∀ (i : Nat) (acc : List Int), i + d = N.length → acc.length + 9 * d ≤ 1000 → Ev (fun k => embrasureref05_Bytes.l0 k acc i kind N L B) (acc ++ (flatN (N.drop i) ++ (putI L.length ++ (flatA (L.map prS) ++ (putI B.length ++ B))))) := by
  induction d with
  | zero =>
    intro i acc hi ha
    rw [List.drop_eq_nil_of_le (by omega)]
    have e : putI (L.length : Int) = [(L.length : Int)] := putI_small _ (by omega) (by omega)
    refine Ev.step (f := fun k => embrasureref05_Bytes.l1 k (acc ++ putI L.length) ((0 : Nat) : Int) kind N L B) (fun k => ?_) ?_
    · simp only [embrasureref05_Bytes.l0]
      rw [if_neg (by omega), if_pos (by omega), show (L.length : Int) % 256 = L.length by omega, e]
      rfl
    · have := rb_l1 kind N L B hg hl hB L.length 0 (acc ++ putI L.length) (by omega) (by rw [List.length_append, e, List.length_singleton]; omega)
      rw [List.append_assoc, List.drop_zero] at this
      exact this
  | succ d ih =>
    intro i acc hi ha
    have h1 : i < N.length := by omega
    have hx := hN N[i] (List.getElem_mem h1)
    have h9 := putI_len_le N[i]
    rw [List.drop_eq_getElem_cons h1, flatN_cons]
    refine Ev.step (f := fun k => embrasureref05_Bytes.l0 k (acc ++ putI N[i]) ((i + 1 : Nat) : Int) kind N L B) (fun k => ?_) ?_
    · simp only [embrasureref05_Bytes.l0]
      rw [if_pos (by omega), if_pos (by omega), rd_get N i h1, ruput_f _ (by omega), Option.bind_some, if_pos (by omega), wr _ (by omega) (by omega)]
      rfl
    · have := ih (i + 1) (acc ++ putI N[i]) (by omega) (by rw [List.length_append]; omega)
      rw [List.append_assoc] at this
      exact this
theorem rbytes_yes {kind : Int} {N : List Int} {L : List S45} {B : List Int} (hN : InN N) (hL : InS L) (h1 : N.length ≤ 1000000000) (h2 : L.length ≤ 1000000000) : Ev (fun k => embrasureref05_Bytes.f k kind N L B) (bytesF kind N (L.map prS) B) := by
  unfold bytesF embrasureref05_Bytes.f
  refine Ev.bind (rmay_yes hN hL h1 h2) ?_
  by_cases h : mayM kind N (L.map prS) B = true
  · obtain ⟨a1, a2, a3, a4, a5, a6, a7⟩ := may_parts hN hL h
    rw [if_pos h]
    have h9 := putI_len_le kind
    have := rb_l0 kind N L B a1 a2 a3 a4 a5 N.length 0 (putI kind) (by omega) (by omega)
    rw [List.drop_zero] at this
    unfold bytesM
    rw [List.length_map]
    refine Ev.congr (fun k => ?_) this
    rw [if_pos h, IntKind.wrap_u64, show kind % 18446744073709551616 = kind by omega, ruput_f _ (by omega), Option.bind_some]
    rfl
  · rw [if_neg h]
    refine Ev.congr (f := fun _ => some []) (fun k => ?_) (Ev.now _)
    rw [if_neg h]
theorem small_f (kind : Int) (N : List Int) (L : List S45) (B : List Int) : embrasureref05_Small.f kind N L B = some (decide (N.length ≤ 40 ∧ L.length ≤ 40 ∧ B.length ≤ 3000)) := by
  unfold embrasureref05_Small.f
  by_cases q1 : N.length ≤ 40
  · by_cases q2 : L.length ≤ 40
    · rw [if_pos (by omega), if_pos (by omega)]
      simp [q1, q2]
      omega
    · rw [if_pos (by omega), if_neg (by omega)]
      simp [q2]
  · rw [if_neg (by omega)]
    simp [q1]
theorem from_f {l : List Int} (hb : Bytes l) (hl : l.length ≤ 1000000000) : wire_FromBytes.f l = some ((fromF l).1, (fromF l).2.1, (fromF l).2.2.1.map mkS, (fromF l).2.2.2.1, (fromF l).2.2.2.2) := if_pos ⟨hb, hl⟩
end Go.Proofs.Ytklcggcejaecdaa.J
