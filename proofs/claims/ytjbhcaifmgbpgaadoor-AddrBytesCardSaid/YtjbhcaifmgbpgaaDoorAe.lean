/-
  addr: number: digits without a 0 ahead, up to a most. Conditions: as the theorems state them.
-/
import Derived.Test.YtjbhcaifmgbpgaaDoorAd
import Derived.Laws.RangeString
import Derived.Laws.RangeAny
namespace Go.Proofs.YtjbhcaifmgbpgaaDoor.Ad
open Go Go.RowKit Go.Shelf Go.Proofs.YtjbhcaifmgbpgaaDoorW.PrintWords Go.Proofs.YtjbhcaifmgbpgaaDoorW.PrintLast Go.Proofs.YtjbhcaifmgbpgaaDoorW.PrintMore
set_option linter.unusedVariables false
set_option linter.unusedSimpArgs false
attribute [local go_sem] Oper.semAt_some
theorem get_data (s : ByteArray) (i : Nat) (h : i < s.size) : s[i]'h = s.data.toList[i]'h := rfl
theorem numOk_not {s : Str} {most : Int} (b : UInt8) (hb : b ∈ s) (hd : ¬ isDig b) : numOk s most = false := by
  rw [Bool.eq_false_iff]
  exact fun h => hd ((numOk_digs h).2 b hb)
theorem numOk_bad {s : Str} {most : Int} (hm : most ≤ 2147483647) (hd : ∀ b ∈ s, isDig b) (ha : ∀ v, Lib.atoiAll s ≠ .ok v) : numOk s most = false := by
  rw [Bool.eq_false_iff]
  intro h
  obtain ⟨h1, h2⟩ := numOk_digs h
  rcases atoi_digs h1 hd with ⟨h3, _⟩ | ⟨_, h3⟩
  · exact ha _ h3
  · have := ((numOk_iff _ _).1 h).2
    omega
theorem numOk_val {s : Str} {most : Int} (hd : ∀ b ∈ s, isDig b) {v : Int} (ha : Lib.atoiAll s = .ok v) : s ≠ [] ∧ v = (val s : Int) ∧ 0 ≤ v ∧ v < 9223372036854775808 := by
  have hne : s ≠ [] := fun e => by rw [e] at ha; cases ha
  refine ⟨hne, ?_⟩
  rcases atoi_digs hne hd with ⟨h3, h4⟩ | ⟨h3, _⟩
  · rw [h3] at ha
    injection ha with ha
    omega
  · rw [h3] at ha; cases ha
def NumPost (w : World) (s : Str) (most : Int) (e : Ending) (w' : World) : Prop := ∃ v, e = .returned (.tuple #[.int .i64 v, .bool (numOk s most)]) ∧ (numOk s most = true → v = (val s : Int)) ∧ Below w.heap.size w w'
theorem numOk_here {s : ByteArray} {most v : Int} (hv : v = (val s.data.toList : Int)) : numOk s.data.toList most = (((mk (dI v)).toList == s.toList) && decide (v ≤ most)) := by
  subst hv
  unfold numOk
  congr 1
  rw [Go.ByteArray.toList_eq, Go.ByteArray.toList_eq, mk_data]
  unfold dI
  rw [Int.toNat_natCast]
  by_cases h : dec (val s.data.toList) = s.data.toList
  · rw [h]; simp
  · rw [decide_eq_false h]; symm; rw [beq_eq_false_iff_ne]; exact h
theorem iter_below (w : World) (s : ByteArray) (i : Nat) : Below w.heap.size w (w.iter s i) := (Below.refl _ _).alloc (Nat.le_refl _) _
set_option maxRecDepth 100000 in
set_option maxHeartbeats 4000000 in
theorem number_calls (w : World) (hE : Env w) (s : ByteArray) (hs : s.size ≤ 1000000) (most : Int) (hm0 : 0 ≤ most) (hm1 : most ≤ 2147483647) :
    Calls Tryd.prog 29 #[.string s, .int .i64 most] w (NumPost w s.data.toList most) := by
  have HENV := Lib.hid hE
  have HM := Lib.hid (And.intro hm0 hm1)
  have HS := Lib.hid hs
  clear hE hm0 hm1 hs
  go_enter Tryd.func29, Tryd.ntmps29
  go_upto_region 2 with fail
  go_loopw [] (fun wr => ∃ i : Nat, wr = w.iter s i ∧ i ≤ s.size ∧ Hid (∀ b ∈ s.data.toList.take i, isDig b)) (fun wr => s.size - wr.iterPos w.heap.size)
  case atStart => exact ⟨0, rfl, Nat.zero_le _, Lib.hid (by simp)⟩
  case round =>
    obtain ⟨i, rfl, hi, HT⟩ := hrel
    by_cases hlt : i < s.size
    · have hil : i < s.data.toList.length := hlt
      by_cases hd : isDig (s[i]'hlt)
      · have hdd := hd
        unfold isDig at hdd
        have hnx := fun ty => run_next_ascii (P := Tryd.prog) w s i ty hlt (by omega)
        obtain ⟨c, hcv⟩ : ∃ c, (s[i]'hlt).toNat = c := ⟨_, rfl⟩
        rw [hcv] at hnx hdd
        have b1 : decide ((c : Int) < 48) = false := decide_eq_false (by omega)
        have b2 : decide ((c : Int) > 57) = false := decide_eq_false (by omega)
        have b1' : decide (c < 48) = false := decide_eq_false (by omega)
        have b2' : decide (57 < c) = false := decide_eq_false (by omega)
        have HD := Lib.hid hd
        clear hd hcv
        go_wp2
        go_roundw
        case rel => exact ⟨i + 1, rfl, by omega, Lib.hid (fun b hb => by
          rw [List.take_add_one, List.getElem?_eq_getElem hil] at hb
          rcases List.mem_append.1 hb with hb | hb
          · exact HT.out b hb
          · have hb : b = s.data.toList[i] := by simpa using hb
            rw [hb, ← get_data s i hlt]
            exact HD.out)⟩
        case measure => simp; omega
      · have hnx := fun ty => run_next_any (P := Tryd.prog) w s i ty hlt
        obtain ⟨rn, hrn⟩ : ∃ rn, (Utf8.decode s i).1 = rn := ⟨_, rfl⟩
        have hr : rn < 48 ∨ 57 < rn := by
          unfold isDig at hd
          by_cases ha : (s[i]'hlt).toNat < 128
          · rw [decode_ascii s i hlt ha] at hrn
            dsimp only at hrn
            omega
          · have := (decode_high s i hlt (by omega)).1
            omega
        have hno : numOk s.data.toList most = false := numOk_not (s[i]'hlt) (by rw [get_data s i hlt]; exact List.getElem_mem hil) hd
        rw [hrn] at hnx
        have HNO := Lib.hid hno
        clear hd hno hrn
        rcases hr with hr | hr
        · have b1 : decide ((rn : Int) < 48) = true := decide_eq_true (by omega)
          have b1' : decide (rn < 48) = true := decide_eq_true hr
          go_wp2
          go_ret2
          refine ⟨0, ?_, (fun h => by rw [HNO.out] at h; cases h), iter_below _ _ _⟩
          show Ending.returned (.tuple #[.int .i64 0, .bool false]) = _
          rw [HNO.out]
        · have b1 : decide ((rn : Int) < 48) = false := decide_eq_false (by omega)
          have b1' : decide (rn < 48) = false := decide_eq_false (by omega)
          have b2 : decide ((rn : Int) > 57) = true := decide_eq_true (by omega)
          have b2' : decide (57 < rn) = true := decide_eq_true hr
          go_wp2
          go_ret2
          refine ⟨0, ?_, (fun h => by rw [HNO.out] at h; cases h), iter_below _ _ _⟩
          show Ending.returned (.tuple #[.int .i64 0, .bool false]) = _
          rw [HNO.out]
    · have hnx := fun ty => run_next_end (P := Tryd.prog) w s i ty hlt
      have hall : ∀ b ∈ s.data.toList, isDig b := by
        have h := HT.out
        rw [List.take_of_length_le (by have : s.data.toList.length = s.size := rfl
                                       omega)] at h
        exact h
      have HALL := Lib.hid hall
      have KA := Lib.hid (atoi_calls (w.iter s i) (HENV.out.below (iter_below _ _ _)) s HS.out)
      clear hall
      go_upto_region 6 with fail
      go_upto_region 7 with (go_at_call 38; refine KA.out.mono ?_; rintro e w1 ⟨hb1, hcc⟩; have HB1 := Lib.hid ((iter_below w s i).trans (hb1.mono (iter_below w s i).size)); clear hb1; rcases hcc with ⟨v, hv, rfl⟩ | ⟨hno, x, p, rfl⟩)
      · obtain ⟨hne, hvv, hv0, hv9⟩ := numOk_val (most := most) HALL.out hv
        have HVV := Lib.hid hvv
        clear hv hvv
        by_cases hle : v ≤ most
        · have b1 : decide (v ≤ most) = true := decide_eq_true hle
          have KI := Lib.hid (itoa_calls w1 (HENV.out.below HB1.out) v hv0 (by omega))
          have HLE := Lib.hid hle
          clear hle
          go_wp2_with (go_at_call 26; refine KI.out.mono ?_; rintro e w3 ⟨rfl, hb3⟩; have HB3 := Lib.hid (HB1.out.trans (hb3.mono HB1.out.size)); clear hb3)
          go_ret2
          refine ⟨v, ?_, (fun _ => HVV.out), HB3.out⟩
          show Ending.returned (.tuple #[.int .i64 v, .bool ((mk (dI v)).toList == s.toList)]) = _
          rw [numOk_here HVV.out, decide_eq_true HLE.out, Bool.and_true]
        · have b1 : decide (v ≤ most) = false := decide_eq_false hle
          have HLE := Lib.hid hle
          clear hle
          go_wp2
          go_ret2
          refine ⟨v, ?_, (fun _ => HVV.out), HB1.out⟩
          show Ending.returned (.tuple #[.int .i64 v, .bool false]) = _
          rw [numOk_here HVV.out, decide_eq_false (by have := HLE.out; omega), Bool.and_false]
      · have HNO := Lib.hid (numOk_bad HM.out.2 HALL.out hno)
        clear hno
        go_wp2
        go_ret2
        refine ⟨x, ?_, (fun h => by rw [HNO.out] at h; cases h), HB1.out⟩
        show Ending.returned (.tuple #[.int .i64 x, .bool false]) = _
        rw [HNO.out]
end Go.Proofs.YtjbhcaifmgbpgaaDoor.Ad
