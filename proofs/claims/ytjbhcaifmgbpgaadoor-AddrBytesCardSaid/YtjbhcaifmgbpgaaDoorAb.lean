/-
  Places as texts; which texts are places; plain, of no program.
-/
import Derived.Test.YtjbhcaifmgbpgaaDoorAa
namespace Go.Proofs.YtjbhcaifmgbpgaaDoor.Ad
open Go
set_option linter.unusedVariables false
set_option linter.unusedSimpArgs false
abbrev PlaceP := Int × Int × Int × Bool
def mayA (h p : Int) : Bool := decide (h ≠ 0) && (decide (1 ≤ p) && decide (p ≤ 65535))
def mayP (q : PlaceP) : Bool := mayA q.1 q.2.1 && (decide (0 ≤ q.2.2.1) && (decide (q.2.2.1 ≤ 2147483647) && (decide (0 < q.2.2.1) || !q.2.2.2)))
theorem mayA_iff (h p : Int) : mayA h p = true ↔ h ≠ 0 ∧ 1 ≤ p ∧ p ≤ 65535 := by unfold mayA; simp
theorem mayP_iff (q : PlaceP) : mayP q = true ↔ (q.1 ≠ 0 ∧ 1 ≤ q.2.1 ∧ q.2.1 ≤ 65535) ∧ 0 ≤ q.2.2.1 ∧ q.2.2.1 ≤ 2147483647 ∧ (q.2.2.2 = true → 0 < q.2.2.1) := by
  unfold mayP
  rw [Bool.and_eq_true, mayA_iff]
  cases q.2.2.2 <;> simp
def dI (n : Int) : Str := dec n.toNat
def ip4W : Str := [105, 112, 52]
def udpW : Str := [117, 100, 112]
def p2pW : Str := [112, 50, 112]
def cirW : Str := [112, 50, 112, 45, 99, 105, 114, 99, 117, 105, 116]
def hostS (h : Int) : Str := dI (h / 16777216) ++ 46 :: (dI (h / 65536 % 256) ++ 46 :: (dI (h / 256 % 256) ++ 46 :: dI (h % 256)))
def tailS (q : PlaceP) : Str := (if 0 < q.2.2.1 then 47 :: (p2pW ++ 47 :: dI q.2.2.1) else []) ++ (if q.2.2.2 = true then 47 :: cirW else [])
def textV (q : PlaceP) : Str := 47 :: (ip4W ++ 47 :: (hostS q.1 ++ 47 :: (udpW ++ 47 :: (dI q.2.1 ++ tailS q))))
def textP (q : PlaceP) : Str := if mayP q = true then textV q else []
def U32 (h : Int) : Prop := 0 ≤ h ∧ h ≤ 4294967295
theorem textV_ne (q : PlaceP) : textV q ≠ [] := by unfold textV; simp
/-! ### numbers -/
theorem dig_ne {b : UInt8} (h : isDig b) (c : UInt8) (hc : c.toNat < 48 ∨ 57 < c.toNat) : b ≠ c := fun e => by unfold isDig at h; rw [e] at h; omega
theorem dec_free (u : Nat) (c : UInt8) (hc : c.toNat < 48 ∨ 57 < c.toNat) : c ∉ dec u := fun h => dig_ne (dec_digits u c h) c hc rfl
theorem dI_free (n : Int) (c : UInt8) (hc : c.toNat < 48 ∨ 57 < c.toNat) : c ∉ dI n := dec_free _ c hc
theorem dI_inj {a b : Int} (ha : 0 ≤ a) (hb : 0 ≤ b) (h : dI a = dI b) : a = b := by have := dec_inj h; omega
def numOk (s : Str) (most : Int) : Bool := decide (dec (val s) = s) && decide ((val s : Int) ≤ most)
theorem numOk_iff (s : Str) (most : Int) : numOk s most = true ↔ dec (val s) = s ∧ (val s : Int) ≤ most := by unfold numOk; simp
theorem numOk_dI {n most : Int} (h0 : 0 ≤ n) (h1 : n ≤ most) : numOk (dI n) most = true ∧ (val (dI n) : Int) = n := by
  have e : val (dI n) = n.toNat := val_dec _
  rw [numOk_iff, e]
  exact ⟨⟨rfl, by omega⟩, by omega⟩
theorem foldl_ge : ∀ (l : Str) (a : Nat), a ≤ l.foldl (fun a b => a * 10 + (b.toNat - 48)) a
  | [], a => Nat.le_refl _
  | b :: l, a => Nat.le_trans (by omega) (foldl_ge l (a * 10 + (b.toNat - 48)))
theorem parse_digs : ∀ (l : Str) (a : Nat), (∀ b ∈ l, isDig b) → a < 18446744073709551616 →
    (Lib.parseUint10 a l = .ok (l.foldl (fun a b => a * 10 + (b.toNat - 48)) a) ∧ l.foldl (fun a b => a * 10 + (b.toNat - 48)) a < 18446744073709551616) ∨ (Lib.parseUint10 a l = .range ∧ 18446744073709551616 ≤ l.foldl (fun a b => a * 10 + (b.toNat - 48)) a)
  | [], a, _, ha => .inl ⟨rfl, ha⟩
  | b :: l, a, hd, ha => by
    have hb := hd b (by simp)
    have ih := parse_digs l (a * 10 + (b.toNat - 48)) (fun x hx => hd x (by simp [hx]))
    unfold isDig at hb
    unfold Lib.parseUint10
    rw [if_pos hb]
    show (_ ∧ List.foldl _ (a * 10 + (b.toNat - 48)) l < _) ∨ (_ ∧ _ ≤ List.foldl _ (a * 10 + (b.toNat - 48)) l)
    have hge := foldl_ge l (a * 10 + (b.toNat - 48))
    split
    · exact .inr ⟨rfl, by omega⟩
    · split
      · exact .inr ⟨rfl, by omega⟩
      · exact ih (by omega)
/-- How Atoi ends at digits. -/
theorem atoi_digs {l : Str} (hne : l ≠ []) (hd : ∀ b ∈ l, isDig b) : (Lib.atoiAll l = .ok (val l) ∧ (val l : Int) < 9223372036854775808) ∨ (Lib.atoiAll l = .range ∧ 9223372036854775808 ≤ (val l : Int)) := by
  cases l with
  | nil => exact absurd rfl hne
  | cons c r =>
    have hc := hd c (by simp)
    unfold isDig at hc
    unfold Lib.atoiAll
    have h1 : ¬ (c.toNat = 43 ∨ c.toNat = 45) := by omega
    have h2 : ¬ c.toNat = 45 := by omega
    dsimp only
    rw [if_neg h1]
    unfold Lib.parseMag
    rw [if_neg (by simp)]
    have hp := parse_digs (c :: r) 0 hd (by decide)
    have hv : val (c :: r) = (c :: r).foldl (fun a b => a * 10 + (b.toNat - 48)) 0 := rfl
    rw [← hv] at hp
    rcases hp with ⟨hp, hl⟩ | ⟨hp, hl⟩
    · rw [hp]
      dsimp only
      by_cases hb : 9223372036854775808 ≤ val (c :: r)
      · rw [if_pos ⟨h2, hb⟩]
        exact .inr ⟨rfl, by omega⟩
      · rw [if_neg (fun h => hb h.2), if_neg (fun h => h2 h.1), if_neg h2]
        exact .inl ⟨rfl, by omega⟩
    · rw [hp]
      exact .inr ⟨rfl, by omega⟩
theorem numOk_digs {s : Str} {most : Int} (h : numOk s most = true) : s ≠ [] ∧ ∀ b ∈ s, isDig b := by
  obtain ⟨h1, _⟩ := (numOk_iff s most).1 h
  rw [← h1]
  exact ⟨dec_ne _, dec_digits _⟩
/-! ### hosts -/
def hostOk (s : Str) : Bool := decide ((split1 46 s).length = 4) && (split1 46 s).all (fun p => numOk p 255)
def hostV (ps : List Str) : Int := ps.foldl (fun h p => h * 256 + (val p : Int)) 0
theorem host_parts (h : Int) : split1 46 (hostS h) = [dI (h / 16777216), dI (h / 65536 % 256), dI (h / 256 % 256), dI (h % 256)] := by
  have f := fun n => dI_free n 46 (by decide)
  unfold hostS
  rw [split_app _ (f _), split_app _ (f _), split_app _ (f _), split_none (f _)]
theorem host_ok {h : Int} (hh : U32 h) : hostOk (hostS h) = true ∧ hostV (split1 46 (hostS h)) = h := by
  unfold U32 at hh
  have a := numOk_dI (n := h / 16777216) (most := 255) (by omega) (by omega)
  have b := numOk_dI (n := h / 65536 % 256) (most := 255) (by omega) (by omega)
  have c := numOk_dI (n := h / 256 % 256) (most := 255) (by omega) (by omega)
  have d := numOk_dI (n := h % 256) (most := 255) (by omega) (by omega)
  unfold hostOk hostV
  rw [host_parts]
  refine ⟨by simp [a.1, b.1, c.1, d.1], ?_⟩
  simp only [List.foldl_cons, List.foldl_nil, a.2, b.2, c.2, d.2]
  omega
theorem host_of {s : Str} (h : hostOk s = true) : s = hostS (hostV (split1 46 s)) ∧ U32 (hostV (split1 46 s)) := by
  unfold hostOk at h
  obtain ⟨hl, ha⟩ := Bool.and_eq_true_iff.1 h
  have hl := of_decide_eq_true hl
  have hj := join_split 46 s
  match hs : split1 46 s, hl, ha with
  | [a, b, c, d], _, ha =>
    rw [hs] at hj
    simp only [List.all_cons, List.all_nil, Bool.and_true, Bool.and_eq_true] at ha
    obtain ⟨h1, h2, h3, h4⟩ := ha
    rw [numOk_iff] at h1 h2 h3 h4
    have e : hostV [a, b, c, d] = (((val a : Int) * 256 + val b) * 256 + val c) * 256 + val d := by unfold hostV; simp only [List.foldl_cons, List.foldl_nil]; omega
    rw [e]
    refine ⟨?_, by unfold U32; omega⟩
    have e1 : (((val a : Int) * 256 + val b) * 256 + val c) * 256 + val d = val a * 16777216 + val b * 65536 + val c * 256 + val d := by omega
    rw [e1]
    unfold hostS dI
    rw [show ((val a : Int) * 16777216 + val b * 65536 + val c * 256 + val d) / 16777216 = val a by omega,
      show ((val a : Int) * 16777216 + val b * 65536 + val c * 256 + val d) / 65536 % 256 = val b by omega,
      show ((val a : Int) * 16777216 + val b * 65536 + val c * 256 + val d) / 256 % 256 = val c by omega,
      show ((val a : Int) * 16777216 + val b * 65536 + val c * 256 + val d) % 256 = val d by omega]
    simp only [Int.toNat_natCast, h1.1, h2.1, h3.1, h4.1]
    exact hj.symm
/-! ### places -/
def parse5 (a b c d e : Str) : Option PlaceP := if a = [] ∧ b = ip4W ∧ d = udpW ∧ hostOk c = true ∧ numOk e 65535 = true ∧ mayP (hostV (split1 46 c), (val e : Int), 0, false) = true then some (hostV (split1 46 c), (val e : Int), 0, false) else none
def parse7 (a b c d e f g : Str) : Option PlaceP := if a = [] ∧ b = ip4W ∧ d = udpW ∧ hostOk c = true ∧ numOk e 65535 = true ∧ f = p2pW ∧ numOk g 2147483647 = true ∧ 0 < val g ∧ mayP (hostV (split1 46 c), (val e : Int), (val g : Int), false) = true then some (hostV (split1 46 c), (val e : Int), (val g : Int), false) else none
def parse8 (a b c d e f g h : Str) : Option PlaceP := if a = [] ∧ b = ip4W ∧ d = udpW ∧ hostOk c = true ∧ numOk e 65535 = true ∧ f = p2pW ∧ numOk g 2147483647 = true ∧ 0 < val g ∧ h = cirW ∧ mayP (hostV (split1 46 c), (val e : Int), (val g : Int), true) = true then some (hostV (split1 46 c), (val e : Int), (val g : Int), true) else none
def parseW : List Str → Option PlaceP
  | [a, b, c, d, e] => parse5 a b c d e
  | [a, b, c, d, e, f, g] => parse7 a b c d e f g
  | [a, b, c, d, e, f, g, h] => parse8 a b c d e f g h
  | _ => none
def parseF (s : Str) : Option PlaceP := parseW (split1 47 s)
def piecesV (q : PlaceP) : List Str := [[], ip4W, hostS q.1, udpW, dI q.2.1] ++ ((if 0 < q.2.2.1 then [p2pW, dI q.2.2.1] else []) ++ (if q.2.2.2 = true then [cirW] else []))
theorem hostS_free (h : Int) : (47 : UInt8) ∉ hostS h := by
  have f := fun n => dI_free n 47 (by decide)
  unfold hostS
  simp only [List.mem_append, List.mem_cons, not_or]
  exact ⟨f _, by decide, f _, by decide, f _, by decide, f _⟩
theorem split_text (q : PlaceP) : split1 47 (textV q) = piecesV q := by
  have f := fun n => dI_free n 47 (by decide)
  unfold textV piecesV tailS
  rw [split1_yes, split_app _ (by decide), split_app _ (hostS_free _), split_app _ (by decide)]
  by_cases h1 : 0 < q.2.2.1
  · by_cases h2 : q.2.2.2 = true
    · simp only [if_pos h1, if_pos h2]
      rw [show (47 :: (p2pW ++ 47 :: dI q.2.2.1)) ++ 47 :: cirW = 47 :: (p2pW ++ 47 :: (dI q.2.2.1 ++ 47 :: cirW)) by simp, split_app _ (f _), split_app _ (by decide), split_app _ (f _), split_none (by decide)]
      rfl
    · simp only [if_pos h1, if_neg h2, List.append_nil]
      rw [split_app _ (f _), split_app _ (by decide), split_none (f _)]
      rfl
  · by_cases h2 : q.2.2.2 = true
    · simp only [if_neg h1, if_pos h2, List.nil_append]
      rw [split_app _ (f _), split_none (by decide)]
      rfl
    · simp only [if_neg h1, if_neg h2, List.append_nil]
      rw [split_none (f _)]
theorem parse_text {q : PlaceP} (hm : mayP q = true) (hh : U32 q.1) : parseF (textV q) = some q := by
  obtain ⟨h, p, id, via⟩ := q
  have hmm := (mayP_iff _).1 hm
  dsimp only at hmm hh
  obtain ⟨⟨h0, h1, h2⟩, h3, h4, h5⟩ := hmm
  have hh2 := host_ok hh
  have hp := numOk_dI (n := p) (most := 65535) (by omega) h2
  have hi := numOk_dI (n := id) (most := 2147483647) h3 h4
  unfold parseF
  rw [split_text]
  unfold piecesV
  by_cases hid : 0 < id
  · cases via with
    | true =>
      simp only [if_pos hid, if_true, List.cons_append, List.nil_append]
      show parse8 [] ip4W (hostS h) udpW (dI p) p2pW (dI id) cirW = _
      unfold parse8
      rw [hp.2, hi.2, hh2.2, if_pos ⟨rfl, rfl, rfl, hh2.1, hp.1, rfl, hi.1, by have := hi.2; omega, rfl, hm⟩]
    | false =>
      simp only [if_pos hid, Bool.false_eq_true, if_false, List.cons_append, List.nil_append, List.append_nil]
      show parse7 [] ip4W (hostS h) udpW (dI p) p2pW (dI id) = _
      unfold parse7
      rw [hp.2, hi.2, hh2.2, if_pos ⟨rfl, rfl, rfl, hh2.1, hp.1, rfl, hi.1, by have := hi.2; omega, hm⟩]
  · have e : id = 0 := by omega
    subst e
    cases via with
    | true => exact absurd (h5 rfl) (by omega)
    | false =>
      simp only [if_neg hid, Bool.false_eq_true, if_false, List.cons_append, List.nil_append, List.append_nil]
      show parse5 [] ip4W (hostS h) udpW (dI p) = _
      unfold parse5
      rw [hp.2, hh2.2, if_pos ⟨rfl, rfl, rfl, hh2.1, hp.1, hm⟩]
/-- A text that is read is just its place's. -/
theorem parse_some {s : Str} {q : PlaceP} (h : parseF s = some q) : mayP q = true ∧ textV q = s ∧ U32 q.1 := by
  have hj := join_split 47 s
  unfold parseF at h
  have dv : ∀ {x : Str} {m : Int}, numOk x m = true → dI ((val x : Nat) : Int) = x := fun hx => by
    have := ((numOk_iff _ _).1 hx).1
    unfold dI
    rw [Int.toNat_natCast]
    exact this
  generalize split1 47 s = w at h hj
  unfold parseW at h
  split at h
  · rename_i a b c d e
    unfold parse5 at h
    split at h
    · rename_i hc
      obtain ⟨rfl, rfl, rfl, hc, he, hm⟩ := hc
      injection h with h
      subst h
      have hh := host_of hc
      refine ⟨hm, ?_, hh.2⟩
      rw [← hj]
      unfold textV tailS
      dsimp only
      rw [if_neg (by omega), if_neg (by simp), ← hh.1, dv he]
      simp [join1]
    · cases h
  · rename_i a b c d e f g
    unfold parse7 at h
    split at h
    · rename_i hc
      obtain ⟨rfl, rfl, rfl, hc, he, rfl, hg, hg0, hm⟩ := hc
      injection h with h
      subst h
      have hh := host_of hc
      refine ⟨hm, ?_, hh.2⟩
      rw [← hj]
      unfold textV tailS
      dsimp only
      rw [if_pos (by omega), if_neg (by simp), ← hh.1, dv he, dv hg]
      simp [join1]
    · cases h
  · rename_i a b c d e f g x
    unfold parse8 at h
    split at h
    · rename_i hc
      obtain ⟨rfl, rfl, rfl, hc, he, rfl, hg, hg0, rfl, hm⟩ := hc
      injection h with h
      subst h
      have hh := host_of hc
      refine ⟨hm, ?_, hh.2⟩
      rw [← hj]
      unfold textV tailS
      dsimp only
      rw [if_pos (by omega), if_pos rfl, ← hh.1, dv he, dv hg]
      simp [join1]
    · cases h
  · cases h
theorem text_inj {a b : PlaceP} (ha : mayP a = true) (hb : mayP b = true) (ua : U32 a.1) (ub : U32 b.1) (h : textV a = textV b) : a = b := by
  have h1 := parse_text ha ua
  rw [h, parse_text hb ub] at h1
  injection h1 with h1
  exact h1.symm
/-! ### the document's reading -/
def skipF (s : Str) (at_ : Int) (word : Str) : Int := if at_ < 0 ∨ (s.length : Int) < at_ + word.length ∨ (s.drop at_.toNat).take word.length ≠ word then -1 else at_ + word.length
def runF (s : Str) (at_ : Int) : Str := (s.drop at_.toNat).takeWhile (fun b => decide (isDig b))
def takeF (s : Str) (at_ : Int) : Int × Int := if at_ < 0 ∨ runF s at_ = [] ∨ 2147483647 < val (runF s at_) ∨ ((runF s at_).head?.map UInt8.toNat = some 48 ∧ 1 < (runF s at_).length) then (0, -1) else ((val (runF s at_) : Int), at_ + (runF s at_).length)
def u32 (x : Int) : Int := x % 4294967296
def ipW : Str := 47 :: (ip4W ++ [47])
def udW : Str := 47 :: (udpW ++ [47])
def p2W : Str := 47 :: (p2pW ++ [47])
def ciW : Str := 47 :: cirW
def scanF (s : Str) : PlaceP :=
  let t0 := takeF s (skipF s 0 ipW)
  let t1 := takeF s (skipF s t0.2 [46])
  let t2 := takeF s (skipF s t1.2 [46])
  let t3 := takeF s (skipF s t2.2 [46])
  let h := u32 (u32 (u32 (u32 (u32 (u32 (u32 (u32 t0.1) * 256) + u32 t1.1) * 256) + u32 t2.1) * 256) + u32 t3.1)
  let t4 := takeF s (skipF s t3.2 udW)
  let m := skipF s t4.2 p2W
  if 0 ≤ m then (h, t4.1, (takeF s m).1, decide (0 ≤ skipF s (takeF s m).2 ciW)) else (h, t4.1, 0, false)
def refF (s : Str) : Option PlaceP := if textP (scanF s) = s ∧ s ≠ [] then some (scanF s) else none
theorem skip_at (a w b : Str) {n : Int} (hn : n = a.length) : skipF (a ++ (w ++ b)) n w = ((a ++ w).length : Nat) := by
  subst hn
  unfold skipF
  rw [if_neg]
  · rw [List.length_append]; omega
  · rw [not_or, not_or]
    refine ⟨by omega, by simp only [List.length_append]; omega, ?_⟩
    rw [Int.toNat_natCast, List.drop_left, List.take_left]
    simp
theorem skip_no (a b w : Str) {n : Int} (hn : n = a.length) (h : b.take w.length ≠ w) : skipF (a ++ b) n w = -1 := by
  subst hn
  unfold skipF
  rw [if_pos]
  refine .inr (.inr ?_)
  rw [Int.toNat_natCast, List.drop_left]
  exact h
theorem run_at (a d b : Str) (hd : ∀ x ∈ d, isDig x) (hb : ∀ x r, b = x :: r → ¬ isDig x) {n : Int} (hn : n = a.length) : runF (a ++ (d ++ b)) n = d := by
  subst hn
  unfold runF
  rw [Int.toNat_natCast, List.drop_left]
  induction d with
  | nil =>
    cases b with
    | nil => rfl
    | cons x r => rw [List.nil_append, List.takeWhile_cons_of_neg (by simpa using hb x r rfl)]
  | cons x r ih => rw [List.cons_append, List.takeWhile_cons_of_pos (by simpa using hd x (by simp)), ih (fun y hy => hd y (by simp [hy]))]
theorem take_at (a b : Str) {u : Int} (h0 : 0 ≤ u) (h1 : u ≤ 2147483647) (hb : ∀ x r, b = x :: r → ¬ isDig x) {n : Int} (hn : n = a.length) : takeF (a ++ (dI u ++ b)) n = (u, (((a ++ dI u).length : Nat) : Int)) := by
  have hr := run_at a (dI u) b (dec_digits _) hb hn
  have hv : (val (dI u) : Int) = u := by show ((val (dec u.toNat) : Nat) : Int) = u; rw [val_dec]; omega
  unfold takeF
  rw [hr, if_neg]
  · rw [hv, List.length_append]
    congr 1
    omega
  · rw [not_or, not_or, not_or]
    refine ⟨by omega, dec_ne _, by omega, fun h => ?_⟩
    obtain ⟨h2, h3⟩ := h
    cases hd : dI u with
    | nil => rw [hd] at h3; simp at h3
    | cons x r =>
      rw [hd] at h2
      have hx : x.toNat = 48 := by simpa using h2
      by_cases hu : u = 0
      · subst hu
        rw [show dI 0 = [48] from dec_small (by decide)] at h3
        simp at h3
      · exact dec_head (show 0 < u.toNat by omega) x r hd hx
theorem dot_no : ∀ (l : Str) (x : UInt8) (r : Str), 46 :: l = x :: r → ¬ isDig x := fun l x r e => by injection e with e _; rw [← e]; decide
theorem sl_no : ∀ (l : Str) (x : UInt8) (r : Str), 47 :: l = x :: r → ¬ isDig x := fun l x r e => by injection e with e _; rw [← e]; decide
theorem tail_no (q : PlaceP) : ∀ (x : UInt8) (r : Str), tailS q = x :: r → ¬ isDig x := fun x r e => by
  unfold tailS at e
  split at e
  · exact sl_no _ x r e
  · rw [List.nil_append] at e
    split at e
    · exact sl_no _ x r e
    · cases e
theorem u32_in {x : Int} (h0 : 0 ≤ x) (h1 : x ≤ 4294967295) : u32 x = x := by unfold u32; omega
theorem scan_host {h : Int} (hh : U32 h) (r : Str) (hr : ∀ x y, r = x :: y → ¬ isDig x) :
    ∀ s, s = ipW ++ (hostS h ++ r) → ∃ n0 n1 n2 n3 : Int, ∃ p0 p1 p2 : Int, takeF s (skipF s 0 ipW) = (n0, p0) ∧ takeF s (skipF s p0 [46]) = (n1, p1) ∧ takeF s (skipF s p1 [46]) = (n2, p2) ∧
      takeF s (skipF s p2 [46]) = (n3, (((ipW ++ hostS h).length : Nat) : Int)) ∧ u32 (u32 (u32 (u32 (u32 (u32 (u32 (u32 n0) * 256) + u32 n1) * 256) + u32 n2) * 256) + u32 n3) = h := by
  intro s hs
  unfold U32 at hh
  obtain ⟨a, ha⟩ : ∃ a, h / 16777216 = a := ⟨_, rfl⟩
  obtain ⟨b, hb⟩ : ∃ b, h / 65536 % 256 = b := ⟨_, rfl⟩
  obtain ⟨c, hc⟩ : ∃ c, h / 256 % 256 = c := ⟨_, rfl⟩
  obtain ⟨d, hd⟩ : ∃ d, h % 256 = d := ⟨_, rfl⟩
  have hS : hostS h = dI a ++ 46 :: (dI b ++ 46 :: (dI c ++ 46 :: dI d)) := by unfold hostS; rw [ha, hb, hc, hd]
  rw [hS] at hs ⊢
  have k0 : skipF s 0 ipW = (([] ++ ipW).length : Nat) := by
    rw [show s = [] ++ (ipW ++ (dI a ++ (46 :: (dI b ++ 46 :: (dI c ++ 46 :: dI d)) ++ r))) by rw [hs]; simp]
    exact skip_at _ _ _ rfl
  have k1 : takeF s (skipF s 0 ipW) = (a, (((([] ++ ipW) ++ dI a).length : Nat) : Int)) := by
    rw [k0, show s = ([] ++ ipW) ++ (dI a ++ (46 :: (dI b ++ 46 :: (dI c ++ 46 :: dI d)) ++ r)) by rw [hs]; simp]
    exact take_at _ _ (by omega) (by omega) (dot_no _) rfl
  have k2 : skipF s (((([] ++ ipW) ++ dI a).length : Nat) : Int) [46] = ((((([] ++ ipW) ++ dI a) ++ [46]).length : Nat) : Int) := by
    rw [show s = (([] ++ ipW) ++ dI a) ++ ([46] ++ (dI b ++ (46 :: (dI c ++ 46 :: dI d) ++ r))) by rw [hs]; simp]
    exact skip_at _ _ _ rfl
  have k3 : takeF s (skipF s (((([] ++ ipW) ++ dI a).length : Nat) : Int) [46]) = (b, (((((([] ++ ipW) ++ dI a) ++ [46]) ++ dI b).length : Nat) : Int)) := by
    rw [k2, show s = ((([] ++ ipW) ++ dI a) ++ [46]) ++ (dI b ++ (46 :: (dI c ++ 46 :: dI d) ++ r)) by rw [hs]; simp]
    exact take_at _ _ (by omega) (by omega) (dot_no _) rfl
  have k4 : skipF s (((((([] ++ ipW) ++ dI a) ++ [46]) ++ dI b).length : Nat) : Int) [46] = ((((((([] ++ ipW) ++ dI a) ++ [46]) ++ dI b) ++ [46]).length : Nat) : Int) := by
    rw [show s = (((([] ++ ipW) ++ dI a) ++ [46]) ++ dI b) ++ ([46] ++ (dI c ++ (46 :: dI d ++ r))) by rw [hs]; simp]
    exact skip_at _ _ _ rfl
  have k5 : takeF s (skipF s (((((([] ++ ipW) ++ dI a) ++ [46]) ++ dI b).length : Nat) : Int) [46]) = (c, (((((((([] ++ ipW) ++ dI a) ++ [46]) ++ dI b) ++ [46]) ++ dI c).length : Nat) : Int)) := by
    rw [k4, show s = ((((([] ++ ipW) ++ dI a) ++ [46]) ++ dI b) ++ [46]) ++ (dI c ++ (46 :: dI d ++ r)) by rw [hs]; simp]
    exact take_at _ _ (by omega) (by omega) (dot_no _) rfl
  have k6 : skipF s (((((((([] ++ ipW) ++ dI a) ++ [46]) ++ dI b) ++ [46]) ++ dI c).length : Nat) : Int) [46] = ((((((((([] ++ ipW) ++ dI a) ++ [46]) ++ dI b) ++ [46]) ++ dI c) ++ [46]).length : Nat) : Int) := by
    rw [show s = (((((([] ++ ipW) ++ dI a) ++ [46]) ++ dI b) ++ [46]) ++ dI c) ++ ([46] ++ (dI d ++ r)) by rw [hs]; simp]
    exact skip_at _ _ _ rfl
  have k7 : takeF s (skipF s (((((((([] ++ ipW) ++ dI a) ++ [46]) ++ dI b) ++ [46]) ++ dI c).length : Nat) : Int) [46]) = (d, (((((((((([] ++ ipW) ++ dI a) ++ [46]) ++ dI b) ++ [46]) ++ dI c) ++ [46]) ++ dI d).length : Nat) : Int)) := by
    rw [k6, show s = ((((((([] ++ ipW) ++ dI a) ++ [46]) ++ dI b) ++ [46]) ++ dI c) ++ [46]) ++ (dI d ++ r) by rw [hs]; simp]
    exact take_at _ _ (by omega) (by omega) hr rfl
  refine ⟨a, b, c, d, _, _, _, k1, k3, k5, by rw [k7]; simp, ?_⟩
  unfold u32
  omega
theorem scan_text {q : PlaceP} (hm : mayP q = true) (hh : U32 q.1) : scanF (textV q) = q := by
  obtain ⟨h, p, id, via⟩ := q
  have hmm := (mayP_iff _).1 hm
  dsimp only at hmm hh
  obtain ⟨⟨h0, h1, h2⟩, h3, h4, h5⟩ := hmm
  obtain ⟨s, hs⟩ : ∃ s, textV (h, p, id, via) = s := ⟨_, rfl⟩
  obtain ⟨tl, htl⟩ : ∃ t, tailS (h, p, id, via) = t := ⟨_, rfl⟩
  have htn := tail_no (h, p, id, via)
  have e0 : s = ipW ++ (hostS h ++ (47 :: (udpW ++ 47 :: (dI p ++ tl)))) := by
    rw [← hs, ← htl]
    show 47 :: (ip4W ++ 47 :: (hostS h ++ 47 :: (udpW ++ 47 :: (dI p ++ tailS (h, p, id, via))))) = _
    simp [ipW]
  obtain ⟨n0, n1, n2, n3, p0, p1, p2, t0, t1, t2, t3, hv⟩ := scan_host hh _ (sl_no _) s e0
  have k8 : skipF s (((ipW ++ hostS h).length : Nat) : Int) udW = ((((ipW ++ hostS h) ++ udW).length : Nat) : Int) := by
    rw [show s = (ipW ++ hostS h) ++ (udW ++ (dI p ++ tl)) by rw [e0]; simp [udW]]
    exact skip_at _ _ _ rfl
  have k9 : takeF s (skipF s (((ipW ++ hostS h).length : Nat) : Int) udW) = (p, (((((ipW ++ hostS h) ++ udW) ++ dI p).length : Nat) : Int)) := by
    rw [k8, show s = ((ipW ++ hostS h) ++ udW) ++ (dI p ++ tl) by rw [e0]; simp [udW]]
    exact take_at _ _ (by omega) (by omega) (by rw [← htl]; exact htn) rfl
  obtain ⟨A, hA⟩ : ∃ A, ((ipW ++ hostS h) ++ udW) ++ dI p = A := ⟨_, rfl⟩
  have e1 : s = A ++ tl := by rw [e0, ← hA]; simp [udW]
  rw [hA] at k9
  rw [hs]
  unfold scanF
  dsimp only
  rw [t0]
  dsimp only
  rw [t1]
  dsimp only
  rw [t2]
  dsimp only
  rw [t3]
  dsimp only
  rw [hv]
  rw [k9]
  dsimp only
  unfold tailS at htl
  dsimp only at htl
  by_cases hid : 0 < id
  · rw [if_pos hid] at htl
    obtain ⟨t2, ht2⟩ : ∃ t2, (if via = true then 47 :: cirW else ([] : Str)) = t2 := ⟨_, rfl⟩
    rw [ht2] at htl
    have k10 : skipF s ((A.length : Nat) : Int) p2W = (((A ++ p2W).length : Nat) : Int) := by
      rw [show s = A ++ (p2W ++ (dI id ++ t2)) by rw [e1, ← htl]; simp [p2W]]
      exact skip_at _ _ _ rfl
    have ht2n : ∀ x r, t2 = x :: r → ¬ isDig x := by
      rw [← ht2]
      intro x r e
      split at e
      · exact sl_no _ x r e
      · cases e
    have k11 : takeF s (((A ++ p2W).length : Nat) : Int) = (id, ((((A ++ p2W) ++ dI id).length : Nat) : Int)) := by
      rw [show s = (A ++ p2W) ++ (dI id ++ t2) by rw [e1, ← htl]; simp [p2W]]
      exact take_at _ _ h3 h4 ht2n rfl
    rw [k10, if_pos (Int.natCast_nonneg _), k11]
    dsimp only
    cases via with
    | true =>
      have k12 : skipF s ((((A ++ p2W) ++ dI id).length : Nat) : Int) ciW = (((((A ++ p2W) ++ dI id) ++ ciW).length : Nat) : Int) := by
        rw [show s = ((A ++ p2W) ++ dI id) ++ (ciW ++ []) by rw [e1, ← htl, ← ht2]; simp [p2W, ciW]]
        exact skip_at _ _ _ rfl
      rw [k12, decide_eq_true (Int.natCast_nonneg _)]
    | false =>
      have k12 : skipF s ((((A ++ p2W) ++ dI id).length : Nat) : Int) ciW = -1 := by
        rw [show s = ((A ++ p2W) ++ dI id) ++ [] by rw [e1, ← htl, ← ht2]; simp [p2W]]
        exact skip_no _ _ _ rfl (by decide)
      rw [k12]
      rfl
  · have e : id = 0 := by omega
    subst e
    have hvia : via = false := by cases via with | true => exact absurd (h5 rfl) (by omega) | false => rfl
    subst hvia
    rw [if_neg hid] at htl
    have k10 : skipF s ((A.length : Nat) : Int) p2W = -1 := by
      rw [show s = A ++ [] by rw [e1, ← htl]; simp]
      exact skip_no _ _ _ rfl (by decide)
    rw [k10, if_neg (by decide)]
theorem scan_u32 (s : Str) : U32 (scanF s).1 := by
  have h : ∀ x, U32 (u32 x) := fun x => by unfold U32 u32; omega
  unfold scanF
  dsimp only
  split
  · exact h _
  · exact h _
theorem textP_ok {q : PlaceP} {s : Str} (h : textP q = s) (hs : s ≠ []) : mayP q = true ∧ textV q = s := by
  unfold textP at h
  split at h
  · exact ⟨by assumption, h⟩
  · exact absurd h.symm hs
/-- The program's reading and the document's: alike. -/
theorem parse_ref (s : Str) : parseF s = refF s := by
  unfold refF
  by_cases h : textP (scanF s) = s ∧ s ≠ []
  · rw [if_pos h]
    obtain ⟨hm, hv⟩ := textP_ok h.1 h.2
    have := parse_text hm (scan_u32 s)
    rw [hv] at this
    exact this
  · rw [if_neg h]
    cases hp : parseF s with
    | none => rfl
    | some q =>
      obtain ⟨hm, hv, hu⟩ := parse_some hp
      have hs := scan_text hm hu
      rw [hv] at hs
      refine absurd ⟨?_, ?_⟩ h
      · rw [hs]; unfold textP; rw [if_pos hm, hv]
      · rw [← hv]; exact textV_ne q
end Go.Proofs.YtjbhcaifmgbpgaaDoor.Ad
