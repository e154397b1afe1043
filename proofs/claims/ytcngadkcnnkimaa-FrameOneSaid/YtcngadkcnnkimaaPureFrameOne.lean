/-
  Each frame is got again, whatever stands behind, and has as many bytes as it must: the printed pure statement of FrameOne. No condition.
-/
import Derived.Test.YtcngadkcnnkimaaHx3
import Derived.Test.YtcngadkcnnkimaaPureUv
namespace Go.Proofs.Ytcngadkcnnkimaa.Pure
open Go.RowKit Go.Proofs.Ytcngadkcnnkimaa.H Go.Proofs.Ytcngadkcnnkimaa.Uv Go.Proofs.YtcngadkcnnkimaaW.PrintWords Go.Proofs.YtcngadkcnnkimaaW.PrintLast Go.Proofs.YtcngadkcnnkimaaW.PrintMore

theorem fput_yes (row : List Int) (h : row.length ≤ 1200) : Ev (fun k => frame_Put.f k row) (putI row.length ++ row, 0) := by
  unfold frame_Put.f
  refine Ev_else (by omega) ?_
  have hw : IntKind.u64.wrap (row.length : Int) = (row.length : Int) := by rw [IntKind.wrap_u64]; omega
  rw [hw]
  have h9 := putI_len_le (row.length : Int)
  exact Ev.bind (put_yes _ (by omega) (by omega)) (Ev_if (by omega) (Ev.now _))
theorem fget_put (row more : List Int) (h : row.length ≤ 1200) (hm : more.length ≤ 5000) (hr : ∀ x ∈ row, 0 ≤ x ∧ x ≤ 255) (hmb : ∀ x ∈ more, 0 ≤ x ∧ x ≤ 255) :
    Ev (fun k => frame_Get.f k (putI row.length ++ (row ++ more))) (row, ((putI row.length).length : Int) + row.length, 0) := by
  have h9 := putI_len_le (row.length : Int)
  have hb : ∀ x ∈ putI row.length ++ (row ++ more), 0 ≤ x ∧ x ≤ 255 := by
    intro x hx
    rcases List.mem_append.1 hx with hx | hx
    · exact putI_bytes _ (by omega) x hx
    · rcases List.mem_append.1 hx with hx | hx
      · exact hr x hx
      · exact hmb x hx
  have hlen : (putI row.length ++ (row ++ more)).length = (putI row.length).length + row.length + more.length := by simp; omega
  have hcut : ((putI row.length ++ (row ++ more)).take (((putI row.length).length : Int) + (row.length : Int)).toNat).drop ((putI row.length).length : Int).toNat = row := by
    rw [show (((putI row.length).length : Int) + (row.length : Int)).toNat = (putI row.length).length + row.length by omega, Int.toNat_natCast, List.take_length_add_append, List.drop_left, List.take_left]
  unfold frame_Get.f
  refine Ev.bind (get_yes _ hb) ?_
  rw [getI_put _ _ (by omega) (by omega)]
  dsimp only
  rw [wr _ (by omega) (by omega), wr _ (by omega) (by omega), wr _ (by omega) (by omega), hcut]
  refine Ev_if rfl (Ev_else (by omega) (Ev_else (by omega) (Ev_if (by omega) (Ev_if (by omega) (Ev_if (by omega) ?_)))))
  unfold bytes_Clone.f
  rw [if_pos (by omega)]
  exact Ev.now _
theorem fget_nil : Ev (fun k => frame_Get.f k []) ([], 0, 2) := by
  unfold frame_Get.f
  refine Ev.bind (get_yes [] (by simp)) ?_
  rw [show getI [] = (0, 0, 2) by decide]
  exact Ev_else (by decide) (Ev.now _)
theorem count_one : Ev (fun k => frame_Count.f k [2, 97, 98]) 1 := by
  have hg : Ev (fun k => frame_Get.f k [2, 97, 98]) ([97, 98], 3, 0) := fget_put [97, 98] [] (by decide) (by decide) (by decide) (by simp)
  unfold frame_Count.f
  refine Ev.step (f := fun k => (frame_Get.f k [2, 97, 98]).bind fun t => (if t.2.2 = 0 then (if 0 ≤ t.2.1 then (if t.2.1 ≤ (([2, 97, 98] : List Int).length : Int) then (if (0 : Int) < 100000000000000 then (frame_Count.l0 k (([2, 97, 98] : List Int).drop t.2.1.toNat) (0 + 1)) else (none)) else (none)) else (none)) else (some 0))) (fun k => by simp only [frame_Count.l0]; rw [if_pos (by decide)]) ?_
  refine Ev.bind hg (Ev_if rfl (Ev_if (by decide) (Ev_if (by decide) (Ev_if (by decide) ?_))))
  refine Ev.step (f := fun _ => some 1) (fun k => by simp only [frame_Count.l0]; rw [if_neg (by decide)]; rfl) (Ev.now _)
theorem awake_yes : Ev (fun k => embrasurelaw02_awake.f k) true := by
  obtain ⟨k1, h1⟩ := fput_yes [97, 98] (by decide)
  obtain ⟨k2, h2⟩ := fget_put [97, 98] [] (by decide) (by decide) (by decide) (by simp)
  obtain ⟨k3, h3⟩ := fget_nil
  obtain ⟨k4, h4⟩ := count_one
  refine ⟨k1 + k2 + k3 + k4, fun k hk => ?_⟩
  unfold embrasurelaw02_awake.f
  exact if_pos ⟨h1 k (by omega), h2 k (by omega), h3 k (by omega), h4 k (by omega)⟩
theorem loop_yes (row x5 : List Int) (m : Int) (hl : row.length ≤ 1200) (hg : Ev (fun k => frame_Get.f k x5) (row, m, 0)) (d : Nat) : ∀ (x8 : List Int) (i : Nat), x8.length - i = d → x8.length ≤ 1200 → Ev (fun k => embrasurelaw02_FrameOne.l0 k row x5 x8 i) true := by
  have hend : Ev (fun k => (frame_Get.f k x5).bind fun bt152 => (if bt152.2.2 = 0 then ((embrasureref01_Same.f k bt152.1 row).bind fun t157 => (some t157)) else (some false))) true := by
    refine Ev.bind hg (Ev_if rfl (Ev.bind (same_yes row row (by omega)) ?_))
    rw [decide_eq_true rfl]
    exact Ev.now _
  induction d with
  | zero =>
    intro x8 i hd _
    exact Ev.step (fun k => by simp only [embrasurelaw02_FrameOne.l0]; rw [if_neg (by omega)]) hend
  | succ d ih =>
    intro x8 i hd hx
    refine Ev.step (f := fun k => embrasurelaw02_FrameOne.l0 k row x5 (x8.set ((i : Int)).toNat (((rd x8 i) + 1) % 256)) (wrap64 ((i : Int) + 1))) (fun k => by simp only [embrasurelaw02_FrameOne.l0]; rw [if_pos (by omega), if_pos (by omega)]) ?_
    rw [wr _ (by omega) (by omega)]
    exact ih _ (i + 1) (by rw [List.length_set]; omega) (by rw [List.length_set]; exact hx)
theorem put_len_small (L : Nat) (h : L ≤ 1200) : ((putI (L : Int)).length : Int) = if (L : Int) > 127 then 2 else 1 := by
  rw [putI_length _ (by omega) (by omega)]
  unfold lenI
  by_cases h1 : (L : Int) > 127
  · rw [if_pos h1, if_neg (by omega), if_pos (by omega)]
  · rw [if_neg h1, if_pos (by omega)]
theorem FrameOne : embrasurelaw02_FrameOne.Pure := by
  intro row more _ _ hr _ _ hm
  have hrb : ∀ x ∈ row, 0 ≤ x ∧ x ≤ 255 := fun x hx => bounds_u8 (hr x hx)
  have hmb : ∀ x ∈ more, 0 ≤ x ∧ x ≤ 255 := fun x hx => bounds_u8 (hm x hx)
  refine Ev.rounds ?_
  unfold embrasurelaw02_FrameOne.f
  refine Ev.bind awake_yes (Ev_if rfl ?_)
  have hstop : Ev (fun k => embrasurelaw02_FrameOne.j0 k row more true) true := Ev.step (f := fun _ => some true) (fun k => by simp only [embrasurelaw02_FrameOne.j0]; rw [if_pos trivial]) (Ev.now _)
  by_cases h1 : (row.length : Int) > 1200
  · exact Ev_if h1 hstop
  refine Ev_else h1 ?_
  by_cases h2 : (more.length : Int) > 1200
  · rw [decide_eq_true h2]; exact hstop
  rw [decide_eq_false h2]
  have hl : row.length ≤ 1200 := by omega
  have hp := put_len_small row.length hl
  have h9 := putI_len_le (row.length : Int)
  have hx5 : (putI (row.length : Int) ++ row).length = (putI (row.length : Int)).length + row.length := by simp
  have hg1 := fget_put row more hl (by omega) hrb hmb
  have hg2 := fget_put row [] hl (by simp) hrb (by simp)
  rw [List.append_nil] at hg2
  have hmain : Ev (fun k => embrasurelaw02_FrameOne.j1 k row more (putI (row.length : Int) ++ row) 0 (((putI (row.length : Int)).length : Int) + row.length)) true := by
    refine Ev.step (f := fun k => (frame_Get.f k (putI (row.length : Int) ++ (row ++ more))).bind fun bt144 => (if (0 : Int) = 0 then (if bt144.2.2 = 0 then (if ((putI (row.length : Int) ++ row).length : Int) = (((putI (row.length : Int)).length : Int) + row.length) then (if bt144.2.1 = (((putI (row.length : Int)).length : Int) + row.length) then ((embrasureref01_Same.f k bt144.1 row).bind fun t149 => (embrasurelaw02_FrameOne.j2 k row (putI (row.length : Int) ++ row) bt144.1 (!t149))) else (embrasurelaw02_FrameOne.j2 k row (putI (row.length : Int) ++ row) bt144.1 true)) else (embrasurelaw02_FrameOne.j2 k row (putI (row.length : Int) ++ row) bt144.1 true)) else (embrasurelaw02_FrameOne.j2 k row (putI (row.length : Int) ++ row) bt144.1 true)) else (embrasurelaw02_FrameOne.j2 k row (putI (row.length : Int) ++ row) bt144.1 true))) (fun k => by
      simp only [embrasurelaw02_FrameOne.j1, Option.bind_some, List.nil_append, List.length_nil, Nat.zero_add]
      rw [if_pos (by omega), if_pos (by omega), List.append_assoc]) ?_
    refine Ev.bind hg1 (Ev_if rfl (Ev_if rfl (Ev_if (by omega) (Ev_if rfl (Ev.bind (same_yes row row (by omega)) ?_)))))
    rw [decide_eq_true rfl]
    refine Ev.step (f := fun k => embrasurelaw02_FrameOne.l0 k row (putI (row.length : Int) ++ row) row 0) (fun k => by simp only [embrasurelaw02_FrameOne.j2]; rw [if_neg (by decide)]) ?_
    exact loop_yes row _ _ hl hg2 row.length row 0 (by omega) hl
  refine Ev.step (f := fun k => (frame_Put.f k row).bind fun bt131 => (if (row.length : Int) > 127 then (embrasurelaw02_FrameOne.j1 k row more bt131.1 bt131.2 (wrap64 ((wrap64 ((row.length : Int) + 1)) + 1))) else (embrasurelaw02_FrameOne.j1 k row more bt131.1 bt131.2 (wrap64 ((row.length : Int) + 1))))) (fun k => by simp only [embrasurelaw02_FrameOne.j0]; rw [if_neg (by decide)]) ?_
  refine Ev.bind (fput_yes row hl) ?_
  by_cases h127 : (row.length : Int) > 127
  · refine Ev_if h127 ?_
    rw [if_pos h127] at hp
    rw [wr ((row.length : Int) + 1) (by omega) (by omega), wr _ (by omega) (by omega), show (row.length : Int) + 1 + 1 = ((putI (row.length : Int)).length : Int) + row.length by omega]
    exact hmain
  · refine Ev_else h127 ?_
    rw [if_neg h127] at hp
    rw [wr _ (by omega) (by omega), show (row.length : Int) + 1 = ((putI (row.length : Int)).length : Int) + row.length by omega]
    exact hmain

end Go.Proofs.Ytcngadkcnnkimaa.Pure
