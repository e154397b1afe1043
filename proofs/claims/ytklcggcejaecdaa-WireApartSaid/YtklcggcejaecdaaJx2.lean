-- Out of handprint.py, a program of this session that turns the kit's print: not the kit's print itself. Lean checks it.
import Derived.Test.YtklcggcejaecdaaJx0
namespace Go.Proofs.Ytklcggcejaecdaa.J
open Go.RowKit Go.Proofs.YtklcggcejaecdaaW.PrintWords Go.Proofs.YtklcggcejaecdaaW.PrintLast Go.Proofs.YtklcggcejaecdaaW.PrintMore
attribute [local go_sem] max2_int min2_int max_two min_two max_three min_three max_four min_four   -- for this text's walks alone
set_option linter.unusedVariables false
set_option linter.unusedSimpArgs false

-- NOT PRINTED: function 34 (wire_nums)

/-! ### wire_Nums: function 16 -/
def wire_Nums.f (a0 : Int) : Option Int := some (Go.Proofs.Ytklcggcejaecdaa.Wi.numsF a0)
theorem wire_Nums.calls (a0 : Int) (r : Int) (w : World) (h : wire_Nums.f a0 = some r) :
    Calls Try.prog 16 #[.int .i64 a0] w fun e w' => e = .returned (.int .i64 r) ∧ Below w.heap.size w w' := by
  unfold wire_Nums.f at h
  injection h with h
  subst h
  exact Go.Proofs.Ytklcggcejaecdaa.Wi.nums_at w a0

-- NOT PRINTED: function 41 (slices_IndexFunc_uint64_uint64)

-- NOT PRINTED: function 24 (slices_ContainsFunc_uint64_uint64)

-- NOT PRINTED: function 43 (api_Addr_43)

-- NOT PRINTED: function 27 (api_Addr_27)

/-! ### wire_May: function 12 -/
def prS (x : S45) : Int × Int := (x.f0, x.f1)
def mkS (p : Int × Int) : S45 := ⟨p.1, p.2⟩
theorem map_prS (l : List (Int × Int)) : (l.map mkS).map prS = l := by rw [List.map_map]; exact List.map_id' l
theorem map_mkS (l : List S45) : (l.map prS).map mkS = l := by rw [List.map_map]; exact List.map_id' l
theorem C_pr {w : World} {A : Option Addr} {n : Nat} {xs : List S45} (h : Kd.C k45 w A n xs) : Kd.C Go.Proofs.Ytklcggcejaecdaa.Wi.dA w A n (xs.map prS) := by
  obtain ⟨h1, h2, h3⟩ := h
  refine ⟨by rw [List.length_map]; exact h1, h2, fun hn => ?_⟩
  obtain ⟨ad, e, hc⟩ := h3 hn
  refine ⟨ad, e, fun j p hj => ?_⟩
  rw [List.getElem?_map] at hj
  obtain ⟨x, hx, rfl⟩ := Option.map_eq_some_iff.1 hj
  exact hc j x hx
theorem R_mk {w : World} {base e : Nat} {ok : Nat → Prop} {v : Value} {xs : List (Int × Int)} (h : Kd.R Go.Proofs.Ytklcggcejaecdaa.Wi.dA e w base ok v xs) : Kd.R k45 e w base ok v (xs.map mkS) := by
  obtain ⟨h0, cs, h1, h2, h3⟩ := h
  refine ⟨h0, cs, by rw [List.length_map]; exact h1, by rw [List.length_map]; exact h2, fun j p hj => ?_⟩
  rw [List.getElem?_map] at hj
  obtain ⟨x, hx, rfl⟩ := Option.map_eq_some_iff.1 hj
  exact h3 j x hx
def wire_May.f (a0_0 : Int) (l0_1 : List Int) (l0_2 : List S45) (l0_3 : List Int) : Option (Bool) := if ((∀ v ∈ l0_1, 0 ≤ v ∧ v ≤ 18446744073709551615) ∧ (∀ a ∈ l0_2, (0 ≤ a.f0 ∧ a.f0 ≤ 4294967295) ∧ (-9223372036854775808 ≤ a.f1 ∧ a.f1 ≤ 9223372036854775807))) ∧ l0_1.length ≤ 1000000000 ∧ l0_2.length ≤ 1000000000 then some (Go.Proofs.Ytklcggcejaecdaa.Wi.mayM a0_0 l0_1 (l0_2.map prS) l0_3) else none
theorem wire_May.calls (a0_0 : Int) (A0_1 : Option Addr) (c0_1 : Nat) (l0_1 : List Int) (A0_2 : Option Addr) (c0_2 : Nat) (l0_2 : List (S45)) (A0_3 : Option Addr) (c0_3 : Nat) (l0_3 : List Int) (r : Bool) (w : World) (hr0_1 : Kd.C (Kd.int .u64) w A0_1 l0_1.length l0_1) (hc0_1 : l0_1.length ≤ c0_1) (hr0_2 : Kd.C k45 w A0_2 l0_2.length l0_2) (hc0_2 : l0_2.length ≤ c0_2) (hr0_3 : Kd.C (Kd.int .u8) w A0_3 l0_3.length l0_3) (hc0_3 : l0_3.length ≤ c0_3) (h : wire_May.f a0_0 l0_1 l0_2 l0_3 = some r) :
    Calls Try.prog 12 #[.agg #[.int .i64 a0_0, .slice A0_1 l0_1.length c0_1, .slice A0_2 l0_2.length c0_2, .slice A0_3 l0_3.length c0_3]] w fun e w' => e = .returned (.bool r) ∧ Below w.heap.size w w' := by
  unfold wire_May.f at h
  by_cases hc : ((∀ v ∈ l0_1, 0 ≤ v ∧ v ≤ 18446744073709551615) ∧ (∀ a ∈ l0_2, (0 ≤ a.f0 ∧ a.f0 ≤ 4294967295) ∧ (-9223372036854775808 ≤ a.f1 ∧ a.f1 ≤ 9223372036854775807))) ∧ l0_1.length ≤ 1000000000 ∧ l0_2.length ≤ 1000000000
  · rw [if_pos hc] at h
    injection h with h
    subst h
    exact Go.Proofs.Ytklcggcejaecdaa.Wi.wmay_calls w a0_0 A0_1 l0_1.length c0_1 A0_2 l0_2.length c0_2 A0_3 l0_3.length c0_3 l0_1 (l0_2.map prS) l0_3 rfl (by rw [List.length_map]) rfl hr0_1 (C_pr hr0_2) hc.1.1 (fun a ha => by obtain ⟨x, hx, rfl⟩ := List.mem_map.1 ha; exact hc.1.2 x hx) hc.2.1 hc.2.2
  · rw [if_neg hc] at h; cases h

/-! ### bits_Len64: function 42 -/

/-! ### uvar_Len: function 26 -/

/-! ### uvar_Put: function 21 -/
def uvar_Put.f (a0 : Int) : Option (List Int) := if 0 ≤ a0 ∧ a0 ≤ 18446744073709551615 then some (Go.Proofs.Ytklcggcejaecdaa.Uv.putI a0) else none
theorem uvar_Put.calls (a0 : Int) (r : List Int) (w : World) (h : uvar_Put.f a0 = some r) :
    Calls Try.prog 21 #[.int .u64 a0] w fun e w' => ∃ v0_ : Value, e = .returned (v0_) ∧ Kd.R (Kd.int .u8) 5 w' w.heap.size (fun _ => True) v0_ r ∧ Below w.heap.size w w' := by
  unfold uvar_Put.f at h
  by_cases hc : 0 ≤ a0 ∧ a0 ≤ 18446744073709551615
  · rw [if_pos hc] at h
    injection h with h
    subst h
    obtain ⟨k, hk⟩ := (Go.Proofs.Ytklcggcejaecdaa.Uv.put_yes a0 hc.1 hc.2).rounds
    exact Go.Proofs.Ytklcggcejaecdaa.H.uvar_Put.calls k a0 _ w hk
  · rw [if_neg hc] at h; cases h

/-! ### addr_May: function 29 -/

/-! ### addr_Bytes: function 22 -/
def addr_Bytes.f (a0_0 : Int) (a0_1 : Int) : Option (List Int) := if (0 ≤ a0_0 ∧ a0_0 ≤ 4294967295) ∧ (-9223372036854775808 ≤ a0_1 ∧ a0_1 ≤ 9223372036854775807) then some (if Go.Proofs.Ytklcggcejaecdaa.Wi.mayA (a0_0, a0_1) = true then Go.Proofs.Ytklcggcejaecdaa.Wi.bytesA (a0_0, a0_1) else []) else none
theorem addr_Bytes.calls (a0_0 : Int) (a0_1 : Int) (r : List Int) (w : World) (h : addr_Bytes.f a0_0 a0_1 = some r) :
    Calls Try.prog 22 #[.agg #[.int .u32 a0_0, .int .i64 a0_1]] w fun e w' => ∃ v0_ : Value, e = .returned (v0_) ∧ Kd.R (Kd.int .u8) 5 w' w.heap.size (fun _ => True) v0_ r ∧ Below w.heap.size w w' := by
  unfold addr_Bytes.f at h
  by_cases hc : (0 ≤ a0_0 ∧ a0_0 ≤ 4294967295) ∧ (-9223372036854775808 ≤ a0_1 ∧ a0_1 ≤ 9223372036854775807)
  · rw [if_pos hc] at h
    injection h with h
    subst h
    exact Go.Proofs.Ytklcggcejaecdaa.H.addr_Bytes.calls a0_0 a0_1 _ w (Go.Proofs.Ytklcggcejaecdaa.Wi.bytes_f (a0_0, a0_1) hc)
  · rw [if_neg hc] at h; cases h

/-! ### frame_Put: function 23 -/
def frame_Put.f (l0 : List Int) : Option (List Int × Int) := if l0.length ≤ 1200 then some (Go.Proofs.Ytklcggcejaecdaa.Uv.putI l0.length ++ l0, 0) else none
theorem frame_Put.calls (A0 : Option Addr) (c0 : Nat) (l0 : List Int) (r1 : List Int) (r2 : Int) (w : World) (hr0 : Kd.C (Kd.int .u8) w A0 l0.length l0) (hc0 : l0.length ≤ c0) (h : frame_Put.f l0 = some (r1, r2)) :
    Calls Try.prog 23 #[.slice A0 l0.length c0] w fun e w' => ∃ v0_ : Value, e = .returned (.tuple #[v0_, .int .i64 r2]) ∧ Kd.R (Kd.int .u8) 5 w' w.heap.size (fun _ => True) v0_ r1 ∧ Below w.heap.size w w' := by
  unfold frame_Put.f at h
  by_cases hc : l0.length ≤ 1200
  · rw [if_pos hc] at h
    injection h with h
    obtain ⟨k, hk⟩ := (Go.Proofs.Ytklcggcejaecdaa.Fr.fput_yes l0 hc).rounds
    rw [h] at hk
    exact Go.Proofs.Ytklcggcejaecdaa.H.frame_Put.calls k A0 c0 l0 _ _ w hr0 hc0 hk
  · rw [if_neg hc] at h; cases h

/-! ### wire_Bytes: function 11 -/
mutual
def wire_Bytes.l0 : Nat → List Int → List Int → Int → Int → Int → List Int → List (S45) → List Int → Option (List Int)
  | 0, _, _, _, _, _, _, _, _ => none
  | k + 1, x3, x18, x19, x20, x102000, x102001, x102002, x102003 => if x20 < x19 then (if 0 ≤ x20 then (if x20 < (x18.length : Int) then ((uvar_Put.f (rd x18 x20)).bind fun t107 => (if x3.length + t107.length < 140737488355328 then (wire_Bytes.l0 k (x3 ++ t107) x18 x19 (wrap64 (x20 + 1)) x102000 x102001 x102002 x102003) else (none))) else (none)) else (none)) else ((uvar_Put.f (IntKind.u64.wrap ((x102002.length : Int)))).bind fun t113 => (if x3.length + t113.length < 140737488355328 then (wire_Bytes.l1 k (x3 ++ t113) x102002 (x102002.length : Int) 0 x102000 x102001 x102002 x102003) else (none)))
def wire_Bytes.l1 : Nat → List Int → List (S45) → Int → Int → Int → List Int → List (S45) → List Int → Option (List Int)
  | 0, _, _, _, _, _, _, _, _ => none
  | k + 1, x3, x37, x38, x39, x102000, x102001, x102002, x102003 => if x39 < x38 then (if 0 ≤ x39 then (if x39 < (x37.length : Int) then ((addr_Bytes.f ((rd_T45 x37 x39).f0) ((rd_T45 x37 x39).f1)).bind fun t121 => (if x3.length + t121.length < 140737488355328 then (wire_Bytes.l1 k (x3 ++ t121) x37 x38 (wrap64 (x39 + 1)) x102000 x102001 x102002 x102003) else (none))) else (none)) else (none)) else ((frame_Put.f x102003).bind fun bt127 => (if x3.length + bt127.1.length < 140737488355328 then (some (x3 ++ bt127.1)) else (none)))
end
def wire_Bytes.f (k : Nat) (a0_0 : Int) (l0_1 : List Int) (l0_2 : List (S45)) (l0_3 : List Int) : Option (List Int) := (wire_May.f a0_0 l0_1 l0_2 l0_3).bind fun t102 => (if t102 = true then ((uvar_Put.f (IntKind.u64.wrap (a0_0))).bind fun t103 => (wire_Bytes.l0 k t103 l0_1 (l0_1.length : Int) 0 a0_0 l0_1 l0_2 l0_3)) else (some ([] : List Int)))
theorem wire_Bytes.mono_l : ∀ k, (∀ y0 y1 y2 y3 y4 y5 y6 y7, LeO (wire_Bytes.l0 k y0 y1 y2 y3 y4 y5 y6 y7) (wire_Bytes.l0 (k + 1) y0 y1 y2 y3 y4 y5 y6 y7)) ∧ (∀ y0 y1 y2 y3 y4 y5 y6 y7, LeO (wire_Bytes.l1 k y0 y1 y2 y3 y4 y5 y6 y7) (wire_Bytes.l1 (k + 1) y0 y1 y2 y3 y4 y5 y6 y7))
  | 0 => ⟨fun _ _ _ _ _ _ _ _ r h => by simp [wire_Bytes.l0] at h, fun _ _ _ _ _ _ _ _ r h => by simp [wire_Bytes.l1] at h⟩
  | k + 1 => by
    obtain ⟨ih0, ih1⟩ := wire_Bytes.mono_l k
    refine ⟨?_, ?_⟩
    · intro y0 y1 y2 y3 y4 y5 y6 y7
      unfold wire_Bytes.l0
      repeat' first
      | (with_reducible exact ih0 _ _ _ _ _ _ _ _)
      | (with_reducible exact ih1 _ _ _ _ _ _ _ _)
      | (with_reducible exact LeO.refl _)
      | (with_reducible exact LeO.none _)
      | (with_reducible refine LeO.ite ?_ ?_)
      | (with_reducible refine LeO.bind ?_ (fun _ => ?_))
      | exact ih0 _ _ _ _ _ _ _ _
      | exact ih1 _ _ _ _ _ _ _ _
      | exact LeO.none _
      | refine LeO.ite ?_ ?_
      | refine LeO.bind ?_ (fun _ => ?_)
    · intro y0 y1 y2 y3 y4 y5 y6 y7
      unfold wire_Bytes.l1
      repeat' first
      | (with_reducible exact ih0 _ _ _ _ _ _ _ _)
      | (with_reducible exact ih1 _ _ _ _ _ _ _ _)
      | (with_reducible exact LeO.refl _)
      | (with_reducible exact LeO.none _)
      | (with_reducible refine LeO.ite ?_ ?_)
      | (with_reducible refine LeO.bind ?_ (fun _ => ?_))
      | exact ih0 _ _ _ _ _ _ _ _
      | exact ih1 _ _ _ _ _ _ _ _
      | exact LeO.none _
      | refine LeO.ite ?_ ?_
      | refine LeO.bind ?_ (fun _ => ?_)
theorem wire_Bytes.mono : ∀ a0 a1 a2 a3 k, LeO (wire_Bytes.f k a0 a1 a2 a3) (wire_Bytes.f (k + 1) a0 a1 a2 a3) := by
  intro a0 a1 a2 a3 k
  obtain ⟨ih0, ih1⟩ := wire_Bytes.mono_l k
  unfold wire_Bytes.f
  repeat' first
      | (with_reducible exact ih0 _ _ _ _ _ _ _ _)
      | (with_reducible exact ih1 _ _ _ _ _ _ _ _)
      | (with_reducible exact LeO.refl _)
      | (with_reducible exact LeO.none _)
      | (with_reducible refine LeO.ite ?_ ?_)
      | (with_reducible refine LeO.bind ?_ (fun _ => ?_))
      | exact ih0 _ _ _ _ _ _ _ _
      | exact ih1 _ _ _ _ _ _ _ _
      | exact LeO.none _
      | refine LeO.ite ?_ ?_
      | refine LeO.bind ?_ (fun _ => ?_)
set_option maxHeartbeats 8000000 in
set_option maxRecDepth 100000 in
theorem wire_Bytes.calls (k : Nat) (a0_0 : Int) (A0_1 : Option Addr) (c0_1 : Nat) (l0_1 : List Int) (A0_2 : Option Addr) (c0_2 : Nat) (l0_2 : List (S45)) (A0_3 : Option Addr) (c0_3 : Nat) (l0_3 : List Int) (r : List Int) (w : World) (hr0_1 : Kd.C (Kd.int .u64) w A0_1 l0_1.length l0_1) (hc0_1 : l0_1.length ≤ c0_1) (hr0_2 : Kd.C k45 w A0_2 l0_2.length l0_2) (hc0_2 : l0_2.length ≤ c0_2) (hr0_3 : Kd.C (Kd.int .u8) w A0_3 l0_3.length l0_3) (hc0_3 : l0_3.length ≤ c0_3) (h : wire_Bytes.f k a0_0 l0_1 l0_2 l0_3 = some r) :
    Calls Try.prog 11 #[.agg #[.int .i64 a0_0, .slice A0_1 l0_1.length c0_1, .slice A0_2 l0_2.length c0_2, .slice A0_3 l0_3.length c0_3]] w fun e w' => ∃ v0_ : Value, e = .returned (v0_) ∧ Kd.R (Kd.int .u8) 5 w' w.heap.size (fun _ => True) v0_ r ∧ Below w.heap.size w w' := by
  have hu26 := Try.underlying26
  have hu45 := Try.underlying45
  have HR0_1 := Aside0.mk hr0_1
  have HC0_1 := Aside0.mk hc0_1
  clear hr0_1 hc0_1
  have HR0_2 := Aside0.mk hr0_2
  have HC0_2 := Aside0.mk hc0_2
  clear hr0_2 hc0_2
  have HR0_3 := Aside0.mk hr0_3
  have HC0_3 := Aside0.mk hc0_3
  clear hr0_3 hc0_3
  have HB := Aside0.mk (Below.refl w.heap.size w)
  have H : ((wire_May.f a0_0 l0_1 l0_2 l0_3).bind fun t102 => (if t102 = true then ((uvar_Put.f (IntKind.u64.wrap (a0_0))).bind fun t103 => (wire_Bytes.l0 k t103 l0_1 (l0_1.length : Int) 0 a0_0 l0_1 l0_2 l0_3)) else (some ([] : List Int)))) = some r := h
  clear h
  replace H := Option.bind_eq_some_iff.mp H
  obtain ⟨t102, A20, H⟩ := H
  replace H : (if t102 = true then ((uvar_Put.f (IntKind.u64.wrap (a0_0))).bind fun t103 => (wire_Bytes.l0 k t103 l0_1 (l0_1.length : Int) 0 a0_0 l0_1 l0_2 l0_3)) else (some ([] : List Int))) = some r := H
  have A2 := Aside0.mk A20
  clear A20
  by_cases c3 : t102 = true
  · subst c3
    have H1 : ((uvar_Put.f (IntKind.u64.wrap (a0_0))).bind fun t103 => (wire_Bytes.l0 k t103 l0_1 (l0_1.length : Int) 0 a0_0 l0_1 l0_2 l0_3)) = some r := by rw [if_pos rfl] at H; exact H
    clear H
    have H := H1
    clear H1
    replace H := Option.bind_eq_some_iff.mp H
    obtain ⟨t103, A40, H⟩ := H
    replace H : (wire_Bytes.l0 k t103 l0_1 (l0_1.length : Int) 0 a0_0 l0_1 l0_2 l0_3) = some r := H
    have A4 := Aside0.mk A40
    clear A40
    have H' := Aside0.mk H
    clear H
    go_enter Try.func11, Try.ntmps11
    go_wp2_with (first | ((with_reducible refine gate_dst (N := 1) rfl ?_); refine box_event ?hg (N := 1) ?hd (cs := #[.int .i64 a0_0, .slice A0_1 l0_1.length c0_1, .slice A0_2 l0_2.length c0_2, .slice A0_3 l0_3.length c0_3]) (t := 26) ?hr ?_; (case hd => rfl); (case hg => rfl); (case hr => first | (go_simp; done) | (go_simp; rfl)); intro gb101 hg w5 hbox hb; have n0_ := Aside0.mk (below_step (by repeat (first | (with_reducible first | exact HB.out | apply below_alloc | apply pw_below_drewN | apply below_drew1) | exact HB.out)) hb); have n1_ := Aside0.mk (hbox); have n2_ := Aside0.mk ((by rw [hg]; exact (below_size (by repeat (first | (with_reducible first | exact HB.out | apply below_alloc | apply pw_below_drewN | apply below_drew1) | exact HB.out))) : w.heap.size ≤ gb101)); have n3_ := Aside0.mk ((by rw [hg]; exact (below_size (by repeat (first | (with_reducible first | exact HB.out | apply below_alloc | apply pw_below_drewN | apply below_drew1) | exact HB.out))) : w.heap.size ≤ gb101)); clear HB; have HB := n0_; have BK101 := n1_; have GW101 := n2_; have GE101 := n3_; clear n0_ n1_ n2_ n3_; clear hb hbox hg; have hcz6_0 : w5.cell? ⟨gb101, 0, none⟩ = some (.int .i64 a0_0) := (blk_cell BK101.out 0).trans rfl; have hcz6_1 : w5.cell? ⟨gb101, 1, none⟩ = some (.slice A0_1 l0_1.length c0_1) := (blk_cell BK101.out 1).trans rfl; have hcz6_2 : w5.cell? ⟨gb101, 2, none⟩ = some (.slice A0_2 l0_2.length c0_2) := (blk_cell BK101.out 2).trans rfl; have hcz6_3 : w5.cell? ⟨gb101, 3, none⟩ = some (.slice A0_3 l0_3.length c0_3) := (blk_cell BK101.out 3).trans rfl; have hfz6_0 := blk_frozen BK101.out 0; have hfz6_1 := blk_frozen BK101.out 1; have hfz6_2 := blk_frozen BK101.out 2; have hfz6_3 := blk_frozen BK101.out 3) | ((with_reducible refine gate_callee (f := 12) rfl ?_); refine goesL_ (some 11) rfl rfl Try.func12 (by kernel_rfl) rfl #[.agg #[.int .i64 a0_0, .slice A0_1 l0_1.length c0_1, .slice A0_2 l0_2.length c0_2, .slice A0_3 l0_3.length c0_3]] rfl (by (try simp only [List.map_toArray, List.map_cons, List.map_nil]); first | done | rfl | (simp only [List.length_drop, List.length_take]; rfl)) ?_; (with_reducible refine (wire_May.calls a0_0 _ _ l0_1 _ _ l0_2 _ _ l0_3 true _ ?side1 ?side2 ?side3 ?side4 ?side5 ?side6 A2.out).mono ?_); (case side1 => repeat (first | exact (Kd.C_below HR0_1.out HB.out) | (with_reducible refine Kd.C_alloc ?_ _) | (with_reducible refine Kd.C_drewN ?_ _) | (with_reducible refine Kd.C_drew ?_))); (case side2 => exact HC0_1.out); (case side3 => repeat (first | exact (Kd.C_below HR0_2.out HB.out) | (with_reducible refine Kd.C_alloc ?_ _) | (with_reducible refine Kd.C_drewN ?_ _) | (with_reducible refine Kd.C_drew ?_))); (case side4 => exact HC0_2.out); (case side5 => repeat (first | exact (Kd.C_below HR0_3.out HB.out) | (with_reducible refine Kd.C_alloc ?_ _) | (with_reducible refine Kd.C_drewN ?_ _) | (with_reducible refine Kd.C_drew ?_))); (case side6 => exact HC0_3.out); rintro e w7 ⟨rfl, hb⟩; refine ⟨_, rfl, ?_⟩; have n0_ := Aside0.mk (blk_below (g := gb101) (o := .cells #[.int .i64 a0_0, .slice A0_1 l0_1.length c0_1, .slice A0_2 l0_2.length c0_2, .slice A0_3 l0_3.length c0_3] 26 (0, 0)) (by (with_reducible repeat (first | refine blk_drewN ?_ _ | refine blk_drew ?_ | refine blk_alloc ?_ _)); exact BK101.out) hb); have n1_ := Aside0.mk (below_step (by repeat (first | (with_reducible first | exact HB.out | apply below_alloc | apply pw_below_drewN | apply below_drew1 | refine below_set ?_ GE101.out) | exact HB.out)) hb); clear BK101; clear HB; have BK101 := n0_; have HB := n1_; clear n0_ n1_; (try clear hb); (try clear hb2); (try clear hk); (try clear hi); have hcz8_0 : w7.cell? ⟨gb101, 0, none⟩ = some (.int .i64 a0_0) := (blk_cell BK101.out 0).trans rfl; have hcz8_1 : w7.cell? ⟨gb101, 1, none⟩ = some (.slice A0_1 l0_1.length c0_1) := (blk_cell BK101.out 1).trans rfl; have hcz8_2 : w7.cell? ⟨gb101, 2, none⟩ = some (.slice A0_2 l0_2.length c0_2) := (blk_cell BK101.out 2).trans rfl; have hcz8_3 : w7.cell? ⟨gb101, 3, none⟩ = some (.slice A0_3 l0_3.length c0_3) := (blk_cell BK101.out 3).trans rfl; have hfz8_0 := blk_frozen BK101.out 0; have hfz8_1 := blk_frozen BK101.out 1; have hfz8_2 := blk_frozen BK101.out 2; have hfz8_3 := blk_frozen BK101.out 3) | ((with_reducible refine gate_callee (f := 21) rfl ?_); refine goesL_ (some 16) rfl rfl Try.func21 (by kernel_rfl) rfl #[.int .u64 (IntKind.u64.wrap (a0_0))] rfl (by (try simp only [List.map_toArray, List.map_cons, List.map_nil]); first | done | rfl | (simp only [List.length_drop, List.length_take]; rfl)) ?_; (with_reducible refine (uvar_Put.calls (IntKind.u64.wrap (a0_0)) t103 _ A4.out).mono ?_); rintro e w9 ⟨v104, rfl, ho0, hb⟩; refine ⟨_, rfl, ?_⟩; have n0_ := Aside0.mk (Kd.R_lower ho0 (below_size (by repeat (first | (with_reducible first | exact HB.out | apply below_alloc | apply pw_below_drewN | apply below_drew1 | refine below_set ?_ GE101.out) | exact HB.out)))); have n1_ := Aside0.mk (blk_below (g := gb101) (o := .cells #[.int .i64 a0_0, .slice A0_1 l0_1.length c0_1, .slice A0_2 l0_2.length c0_2, .slice A0_3 l0_3.length c0_3] 26 (0, 0)) (by (with_reducible repeat (first | refine blk_drewN ?_ _ | refine blk_drew ?_ | refine blk_alloc ?_ _)); exact BK101.out) hb); have n2_ := Aside0.mk (below_step (by repeat (first | (with_reducible first | exact HB.out | apply below_alloc | apply pw_below_drewN | apply below_drew1 | refine below_set ?_ GE101.out) | exact HB.out)) hb); clear BK101; clear HB; have HO105 := n0_; have BK101 := n1_; have HB := n2_; clear n0_ n1_ n2_; (try clear hb); (try clear hb2); (try clear hk); (try clear hi); (try clear ho0); have hcz10_0 : w9.cell? ⟨gb101, 0, none⟩ = some (.int .i64 a0_0) := (blk_cell BK101.out 0).trans rfl; have hcz10_1 : w9.cell? ⟨gb101, 1, none⟩ = some (.slice A0_1 l0_1.length c0_1) := (blk_cell BK101.out 1).trans rfl; have hcz10_2 : w9.cell? ⟨gb101, 2, none⟩ = some (.slice A0_2 l0_2.length c0_2) := (blk_cell BK101.out 2).trans rfl; have hcz10_3 : w9.cell? ⟨gb101, 3, none⟩ = some (.slice A0_3 l0_3.length c0_3) := (blk_cell BK101.out 3).trans rfl; have hfz10_0 := blk_frozen BK101.out 0; have hfz10_1 := blk_frozen BK101.out 1; have hfz10_2 := blk_frozen BK101.out 2; have hfz10_3 := blk_frozen BK101.out 3))
    go_loopg [3, 20] k (fun kq v3 v20 w' => ∃ (x3_1 : List Int) (x20_1 : Int), v20 = .int .i64 x20_1 ∧ Aside0 (wire_Bytes.l0 kq x3_1 l0_1 (l0_1.length : Int) x20_1 a0_0 l0_1 l0_2 l0_3 = some r) ∧ Aside0 (kq ≤ k) ∧ Aside0 (Kd.R (Kd.int .u8) 5 w' w.heap.size (fun _ => True) v3 x3_1) ∧ Aside0 (w'.heap[gb101]? = some (.cells #[.int .i64 a0_0, (.slice A0_1 l0_1.length c0_1), (.slice A0_2 l0_2.length c0_2), (.slice A0_3 l0_3.length c0_3)] 26 (0, 0))) ∧ Aside0 (Below w.heap.size w w'))
    case atStart => exact ⟨(t103), (0), (by first | rfl | (simp; done) | (simp [*]; done)), H', ⟨Nat.le_refl _⟩, ⟨by (with_reducible repeat (first | apply Kd.R_alloc | apply Kd.R_drewN | apply Kd.R_drew)); exact HO105.out⟩, ⟨by (with_reducible repeat (first | refine blk_drewN ?_ _ | refine blk_drew ?_ | refine blk_alloc ?_ _)); exact BK101.out⟩, ⟨by repeat (first | (with_reducible first | exact HB.out | apply below_alloc | apply pw_below_drewN | apply below_drew1 | refine below_set ?_ GE101.out) | exact HB.out)⟩⟩
    case round =>
      clear H'
      try clear c1
      try clear c2
      try clear p2
      try clear c3
      try clear hcz10_0
      try clear hcz10_1
      try clear hcz10_2
      try clear hcz10_3
      try clear hcz6_0
      try clear hcz6_1
      try clear hcz6_2
      try clear hcz6_3
      try clear hcz8_0
      try clear hcz8_1
      try clear hcz8_2
      try clear hcz8_3
      try clear hfz10_0
      try clear hfz10_1
      try clear hfz10_2
      try clear hfz10_3
      try clear hfz6_0
      try clear hfz6_1
      try clear hfz6_2
      try clear hfz6_3
      try clear hfz8_0
      try clear hfz8_1
      try clear hfz8_2
      try clear hfz8_3
      obtain ⟨x3_1, x20_1, rfl, HA, HK1, HO_3, BK101, HB⟩ := hrel
      cases gk with
      | zero => exact absurd HA.out (by simp [wire_Bytes.l0])
      | succ k1 =>
        have H := HA.out
        clear HA
        simp only [wire_Bytes.l0] at H
        by_cases c11 : x20_1 < (l0_1.length : Int)
        · rw [if_pos c11] at H
          have c11b0 : decide (x20_1 < (l0_1.length : Int)) = true := decide_eq_true c11
          clear c11
          by_cases c12 : 0 ≤ x20_1
          · rw [if_pos c12] at H
            have c12b0 : decide (0 ≤ x20_1) = true := decide_eq_true c12
            clear c12
            by_cases c13 : x20_1 < (l0_1.length : Int)
            · rw [if_pos c13] at H
              have c13b0 : decide (x20_1 < (l0_1.length : Int)) = true := decide_eq_true c13
              clear c13
              replace H := Option.bind_eq_some_iff.mp H
              obtain ⟨t107, A140, H⟩ := H
              replace H : (if x3_1.length + t107.length < 140737488355328 then (wire_Bytes.l0 k1 (x3_1 ++ t107) l0_1 (l0_1.length : Int) (wrap64 (x20_1 + 1)) a0_0 l0_1 l0_2 l0_3) else (none)) = some r := H
              have A14 := Aside0.mk A140
              clear A140
              by_cases c15 : x3_1.length + t107.length < 140737488355328
              · rw [if_pos c15] at H
                have LMc15 := Aside0.mk c15
                clear c15
                obtain ⟨y110, hy110⟩ : ∃ y_ : List Int, y_ = (x3_1 ++ t107) := ⟨_, rfl⟩
                replace H : (wire_Bytes.l0 k1 y110 l0_1 (l0_1.length : Int) (wrap64 (x20_1 + 1)) a0_0 l0_1 l0_2 l0_3) = some r := by first | (rw [hy110]; with_reducible exact H) | (have H2_ := (Option.bind_some _ _).symm.trans H; rw [hy110]; with_reducible exact H2_) | (have H2_ := (Option.bind_some _ _).symm.trans H; with_reducible exact H2_) | with_reducible exact H | (rw [hy110]; exact H) | exact H
                have Ny110 := Aside0.mk hy110
                clear hy110
                have H' := Aside0.mk H
                clear H
                have p106 : 0 ≤ (x20_1 : Int) := of_decide_eq_true (by first | (with_reducible assumption) | assumption)
                have q106 : x20_1 < (l0_1.length : Int) := of_decide_eq_true (by first | (with_reducible assumption) | assumption)
                obtain ⟨ad106, e106, hx106_0⟩ := Kd.at_int HR0_1.out x20_1 p106 q106
                cases e106
                replace hx106_0 := (HB.out.cell (World.block_lt_of_cell? w _ hx106_0)).trans hx106_0
                replace p106 := eq_true p106
                replace q106 := eq_true q106
                go_wp2_with (first | ((with_reducible refine gate_callee (f := 21) rfl ?_); refine goesL_ (some 26) rfl rfl Try.func21 (by kernel_rfl) rfl #[.int .u64 (rd l0_1 x20_1)] rfl (by (try simp only [List.map_toArray, List.map_cons, List.map_nil]); first | done | rfl | (simp only [List.length_drop, List.length_take]; rfl)) ?_; (with_reducible refine (uvar_Put.calls (rd l0_1 x20_1) t107 _ A14.out).mono ?_); rintro e w16 ⟨v108, rfl, ho0, hb⟩; refine ⟨_, rfl, ?_⟩; have n0_ := Aside0.mk (Kd.R_elder' (by (with_reducible repeat (first | apply Kd.R_alloc | apply Kd.R_drewN | apply Kd.R_drew)); exact HO_3.out) (Kd.R_base ho0) hb); have n1_ := Aside0.mk (Kd.R_lower (Kd.R_new' ho0 (Kd.R_lt (by (with_reducible repeat (first | apply Kd.R_alloc | apply Kd.R_drewN | apply Kd.R_drew)); exact HO_3.out))) (below_size (by repeat (first | (with_reducible first | exact HB.out | apply below_alloc | apply pw_below_drewN | apply below_drew1 | refine below_set ?_ GE101.out) | exact HB.out)))); have n2_ := Aside0.mk (blk_below (g := gb101) (o := .cells #[.int .i64 a0_0, .slice (some ad106) l0_1.length c0_1, .slice A0_2 l0_2.length c0_2, .slice A0_3 l0_3.length c0_3] 26 (0, 0)) (by (with_reducible repeat (first | refine blk_drewN ?_ _ | refine blk_drew ?_ | refine blk_alloc ?_ _)); exact BK101.out) hb); have n3_ := Aside0.mk (below_step (by repeat (first | (with_reducible first | exact HB.out | apply below_alloc | apply pw_below_drewN | apply below_drew1 | refine below_set ?_ GE101.out) | exact HB.out)) hb); clear HO_3; clear BK101; clear HB; have HO_3 := n0_; have HO109 := n1_; have BK101 := n2_; have HB := n3_; clear n0_ n1_ n2_ n3_; (try clear hb); (try clear hb2); (try clear hk); (try clear hi); (try clear ho0); obtain ⟨Ao18, co18, eo18⟩ := Kd.R_slice HO109.out; subst eo18) | ((with_reducible refine gate_builtin (b := .append) (xs := #[.tmp 24, .tmp 26]) rfl ?_); at_builtin; refine Kd.R_append_rows (Kd.int .u8) (w0 := w) w.heap.size rfl (.tmp 24) (.tmp 26) 24 5 (.int .u8 0) 1 rfl Try.underlying24 info5 rfl (by decide) (by omega) u3 x3_1 t107 _ _ _ (fun k_ => some k_ ≠ (.slice Ao18 t107.length co18 : Value).ownBlock) (fun _ => False) rfl rfl ?aO ?aR (fun _ _ h => h) (fun _ h => h.elim) ?aF ?aB ?aS ?aL ?_; (case aR => repeat (first | exact (Kd.R_reads' HO109.out).2.2 | (with_reducible refine Kd.C_alloc ?_ _) | (with_reducible refine Kd.C_drewN ?_ _) | (with_reducible refine Kd.C_drew ?_))); (case aB => exact (by repeat (first | (with_reducible first | exact HB.out | apply below_alloc | apply pw_below_drewN | apply below_drew1 | refine below_set ?_ GE101.out) | exact HB.out))); (case aF => exact (fun k_ hk => Kd.fresh' (Kd.R_lt (by (with_reducible repeat (first | apply Kd.R_alloc | apply Kd.R_drewN | apply Kd.R_drew)); exact HO109.out)) k_ hk)); (case aO => exact (by (with_reducible repeat (first | apply Kd.R_alloc | apply Kd.R_drewN | apply Kd.R_drew)); exact Kd.R_mono HO_3.out (fun _ hk => hk.2))); (case aS => exact (below_size (by repeat (first | (with_reducible first | exact HB.out | apply below_alloc | apply pw_below_drewN | apply below_drew1 | refine below_set ?_ GE101.out) | exact HB.out)))); (case aL => have := LMc15.out; omega); intro v111 w17 ho hb hg hat; rw [← Ny110.out] at ho; have n0_ := Aside0.mk (blk_grown (g := gb101) (o := .cells #[.int .i64 a0_0, .slice (some ad106) l0_1.length c0_1, .slice A0_2 l0_2.length c0_2, .slice A0_3 l0_3.length c0_3] 26 (0, 0)) (by (with_reducible repeat (first | refine blk_drewN ?_ _ | refine blk_drew ?_ | refine blk_alloc ?_ _)); exact BK101.out) hg (Kd.R_ne HO_3.out BK101.out (by decide))); have n1_ := Aside0.mk (Kd.R_after (ok := (fun _ => True)) (by (with_reducible repeat (first | apply Kd.R_alloc | apply Kd.R_drewN | apply Kd.R_drew)); exact HO109.out) hg hat); have n2_ := Aside0.mk (hb); have n3_ := Aside0.mk (ho); clear BK101; clear HO109; clear HB; clear HO_3; have BK101 := n0_; have HO109 := n1_; have HB := n2_; have HO112 := n3_; clear n0_ n1_ n2_ n3_; clear ho hb hg hat))
                go_roundg k1
                case measure => have := HK1.out; omega
                case rel => exact ⟨(y110), (wrap64 (x20_1 + 1)), (by first | rfl | (simp; done) | (simp [*]; done)), H', ⟨by have := HK1.out; omega⟩, ⟨by (with_reducible repeat (first | apply Kd.R_alloc | apply Kd.R_drewN | apply Kd.R_drew)); exact Kd.R_mono HO112.out (fun _ hk => trivial)⟩, ⟨by (with_reducible repeat (first | refine blk_drewN ?_ _ | refine blk_drew ?_ | refine blk_alloc ?_ _)); exact BK101.out⟩, ⟨by repeat (first | (with_reducible first | exact HB.out | apply below_alloc | apply pw_below_drewN | apply below_drew1 | refine below_set ?_ GE101.out) | exact HB.out)⟩⟩
              · rw [if_neg c15] at H
                exact absurd H (by simp)
            · rw [if_neg c13] at H
              exact absurd H (by simp)
          · rw [if_neg c12] at H
            exact absurd H (by simp)
        · rw [if_neg c11] at H
          have c11b0 : decide (x20_1 < (l0_1.length : Int)) = false := decide_eq_false c11
          clear c11
          replace H := Option.bind_eq_some_iff.mp H
          obtain ⟨t113, A190, H⟩ := H
          replace H : (if x3_1.length + t113.length < 140737488355328 then (wire_Bytes.l1 k1 (x3_1 ++ t113) l0_2 (l0_2.length : Int) 0 a0_0 l0_1 l0_2 l0_3) else (none)) = some r := H
          have A19 := Aside0.mk A190
          clear A190
          by_cases c20 : x3_1.length + t113.length < 140737488355328
          · rw [if_pos c20] at H
            have LMc20 := Aside0.mk c20
            clear c20
            obtain ⟨y116, hy116⟩ : ∃ y_ : List Int, y_ = (x3_1 ++ t113) := ⟨_, rfl⟩
            replace H : (wire_Bytes.l1 k1 y116 l0_2 (l0_2.length : Int) 0 a0_0 l0_1 l0_2 l0_3) = some r := by first | (rw [hy116]; with_reducible exact H) | (have H2_ := (Option.bind_some _ _).symm.trans H; rw [hy116]; with_reducible exact H2_) | (have H2_ := (Option.bind_some _ _).symm.trans H; with_reducible exact H2_) | with_reducible exact H | (rw [hy116]; exact H) | exact H
            have Ny116 := Aside0.mk hy116
            clear hy116
            have H' := Aside0.mk H
            clear H
            have hcz21_0 : wr.cell? ⟨gb101, 0, none⟩ = some (.int .i64 a0_0) := (blk_cell BK101.out 0).trans rfl
            have hcz21_1 : wr.cell? ⟨gb101, 1, none⟩ = some (.slice A0_1 l0_1.length c0_1) := (blk_cell BK101.out 1).trans rfl
            have hcz21_2 : wr.cell? ⟨gb101, 2, none⟩ = some (.slice A0_2 l0_2.length c0_2) := (blk_cell BK101.out 2).trans rfl
            have hcz21_3 : wr.cell? ⟨gb101, 3, none⟩ = some (.slice A0_3 l0_3.length c0_3) := (blk_cell BK101.out 3).trans rfl
            have hfz21_0 := blk_frozen BK101.out 0
            have hfz21_1 := blk_frozen BK101.out 1
            have hfz21_2 := blk_frozen BK101.out 2
            have hfz21_3 := blk_frozen BK101.out 3
            go_wp2_with (first | ((with_reducible refine gate_callee (f := 21) rfl ?_); refine goesL_ (some 34) rfl rfl Try.func21 (by kernel_rfl) rfl #[.int .u64 (IntKind.u64.wrap ((l0_2.length : Int)))] rfl (by (try simp only [List.map_toArray, List.map_cons, List.map_nil]); first | done | rfl | (simp only [List.length_drop, List.length_take]; rfl)) ?_; (with_reducible refine (uvar_Put.calls (IntKind.u64.wrap ((l0_2.length : Int))) t113 _ A19.out).mono ?_); rintro e w22 ⟨v114, rfl, ho0, hb⟩; refine ⟨_, rfl, ?_⟩; have n0_ := Aside0.mk (Kd.R_elder' (by (with_reducible repeat (first | apply Kd.R_alloc | apply Kd.R_drewN | apply Kd.R_drew)); exact HO_3.out) (Kd.R_base ho0) hb); have n1_ := Aside0.mk (Kd.R_lower (Kd.R_new' ho0 (Kd.R_lt (by (with_reducible repeat (first | apply Kd.R_alloc | apply Kd.R_drewN | apply Kd.R_drew)); exact HO_3.out))) (below_size (by repeat (first | (with_reducible first | exact HB.out | apply below_alloc | apply pw_below_drewN | apply below_drew1 | refine below_set ?_ GE101.out) | exact HB.out)))); have n2_ := Aside0.mk (blk_below (g := gb101) (o := .cells #[.int .i64 a0_0, .slice A0_1 l0_1.length c0_1, .slice A0_2 l0_2.length c0_2, .slice A0_3 l0_3.length c0_3] 26 (0, 0)) (by (with_reducible repeat (first | refine blk_drewN ?_ _ | refine blk_drew ?_ | refine blk_alloc ?_ _)); exact BK101.out) hb); have n3_ := Aside0.mk (below_step (by repeat (first | (with_reducible first | exact HB.out | apply below_alloc | apply pw_below_drewN | apply below_drew1 | refine below_set ?_ GE101.out) | exact HB.out)) hb); clear HO_3; clear BK101; clear HB; have HO_3 := n0_; have HO115 := n1_; have BK101 := n2_; have HB := n3_; clear n0_ n1_ n2_ n3_; (try clear hb); (try clear hb2); (try clear hk); (try clear hi); (try clear ho0); obtain ⟨Ao24, co24, eo24⟩ := Kd.R_slice HO115.out; subst eo24) | ((with_reducible refine gate_builtin (b := .append) (xs := #[.tmp 29, .tmp 34]) rfl ?_); at_builtin; refine Kd.R_append_rows (Kd.int .u8) (w0 := w) w.heap.size rfl (.tmp 29) (.tmp 34) 24 5 (.int .u8 0) 1 rfl Try.underlying24 info5 rfl (by decide) (by omega) u3 x3_1 t113 _ _ _ (fun k_ => some k_ ≠ (.slice Ao24 t113.length co24 : Value).ownBlock) (fun _ => False) rfl rfl ?aO ?aR (fun _ _ h => h) (fun _ h => h.elim) ?aF ?aB ?aS ?aL ?_; (case aR => repeat (first | exact (Kd.R_reads' HO115.out).2.2 | (with_reducible refine Kd.C_alloc ?_ _) | (with_reducible refine Kd.C_drewN ?_ _) | (with_reducible refine Kd.C_drew ?_))); (case aB => exact (by repeat (first | (with_reducible first | exact HB.out | apply below_alloc | apply pw_below_drewN | apply below_drew1 | refine below_set ?_ GE101.out) | exact HB.out))); (case aF => exact (fun k_ hk => Kd.fresh' (Kd.R_lt (by (with_reducible repeat (first | apply Kd.R_alloc | apply Kd.R_drewN | apply Kd.R_drew)); exact HO115.out)) k_ hk)); (case aO => exact (by (with_reducible repeat (first | apply Kd.R_alloc | apply Kd.R_drewN | apply Kd.R_drew)); exact Kd.R_mono HO_3.out (fun _ hk => hk.2))); (case aS => exact (below_size (by repeat (first | (with_reducible first | exact HB.out | apply below_alloc | apply pw_below_drewN | apply below_drew1 | refine below_set ?_ GE101.out) | exact HB.out)))); (case aL => have := LMc20.out; omega); intro v117 w23 ho hb hg hat; rw [← Ny116.out] at ho; have n0_ := Aside0.mk (blk_grown (g := gb101) (o := .cells #[.int .i64 a0_0, .slice A0_1 l0_1.length c0_1, .slice A0_2 l0_2.length c0_2, .slice A0_3 l0_3.length c0_3] 26 (0, 0)) (by (with_reducible repeat (first | refine blk_drewN ?_ _ | refine blk_drew ?_ | refine blk_alloc ?_ _)); exact BK101.out) hg (Kd.R_ne HO_3.out BK101.out (by decide))); have n1_ := Aside0.mk (Kd.R_after (ok := (fun _ => True)) (by (with_reducible repeat (first | apply Kd.R_alloc | apply Kd.R_drewN | apply Kd.R_drew)); exact HO115.out) hg hat); have n2_ := Aside0.mk (hb); have n3_ := Aside0.mk (ho); clear BK101; clear HO115; clear HB; clear HO_3; have BK101 := n0_; have HO115 := n1_; have HB := n2_; have HO118 := n3_; clear n0_ n1_ n2_ n3_; clear ho hb hg hat; have hcz25_0 : w23.cell? ⟨gb101, 0, none⟩ = some (.int .i64 a0_0) := (blk_cell BK101.out 0).trans rfl; have hcz25_1 : w23.cell? ⟨gb101, 1, none⟩ = some (.slice A0_1 l0_1.length c0_1) := (blk_cell BK101.out 1).trans rfl; have hcz25_2 : w23.cell? ⟨gb101, 2, none⟩ = some (.slice A0_2 l0_2.length c0_2) := (blk_cell BK101.out 2).trans rfl; have hcz25_3 : w23.cell? ⟨gb101, 3, none⟩ = some (.slice A0_3 l0_3.length c0_3) := (blk_cell BK101.out 3).trans rfl; have hfz25_0 := blk_frozen BK101.out 0; have hfz25_1 := blk_frozen BK101.out 1; have hfz25_2 := blk_frozen BK101.out 2; have hfz25_3 := blk_frozen BK101.out 3))
            go_loopg [3, 39] k1 (fun kq v3 v39 w' => ∃ (x3_2 : List Int) (x39_2 : Int), v39 = .int .i64 x39_2 ∧ Aside0 (wire_Bytes.l1 kq x3_2 l0_2 (l0_2.length : Int) x39_2 a0_0 l0_1 l0_2 l0_3 = some r) ∧ Aside0 (kq ≤ k1) ∧ Aside0 (Kd.R (Kd.int .u8) 5 w' w.heap.size (fun _ => True) v3 x3_2) ∧ Aside0 (w'.heap[gb101]? = some (.cells #[.int .i64 a0_0, (.slice A0_1 l0_1.length c0_1), (.slice A0_2 l0_2.length c0_2), (.slice A0_3 l0_3.length c0_3)] 26 (0, 0))) ∧ Aside0 (Below w.heap.size w w'))
            case atStart => exact ⟨(y116), (0), (by first | rfl | (simp; done) | (simp [*]; done)), H', ⟨Nat.le_refl _⟩, ⟨by (with_reducible repeat (first | apply Kd.R_alloc | apply Kd.R_drewN | apply Kd.R_drew)); exact Kd.R_mono HO118.out (fun _ hk => trivial)⟩, ⟨by (with_reducible repeat (first | refine blk_drewN ?_ _ | refine blk_drew ?_ | refine blk_alloc ?_ _)); exact BK101.out⟩, ⟨by repeat (first | (with_reducible first | exact HB.out | apply below_alloc | apply pw_below_drewN | apply below_drew1 | refine below_set ?_ GE101.out) | exact HB.out)⟩⟩
            case round =>
              clear H'
              try clear c1
              try clear p1
              try clear q1
              try clear hx1
              try clear c2
              try clear p2
              try clear c3
              try clear p6
              try clear p10
              try clear q10
              try clear hx10
              try clear c11
              try clear c11b0
              try clear c12
              try clear c12b0
              try clear c13
              try clear c13b0
              try clear c15
              try clear c20
              try clear c21
              try clear hcz10_0
              try clear hcz10_1
              try clear hcz10_2
              try clear hcz10_3
              try clear hcz21_0
              try clear hcz21_1
              try clear hcz21_2
              try clear hcz21_3
              try clear hcz25_0
              try clear hcz25_1
              try clear hcz25_2
              try clear hcz25_3
              try clear hcz6_0
              try clear hcz6_1
              try clear hcz6_2
              try clear hcz6_3
              try clear hcz8_0
              try clear hcz8_1
              try clear hcz8_2
              try clear hcz8_3
              try clear hfz10_0
              try clear hfz10_1
              try clear hfz10_2
              try clear hfz10_3
              try clear hfz21_0
              try clear hfz21_1
              try clear hfz21_2
              try clear hfz21_3
              try clear hfz25_0
              try clear hfz25_1
              try clear hfz25_2
              try clear hfz25_3
              try clear hfz6_0
              try clear hfz6_1
              try clear hfz6_2
              try clear hfz6_3
              try clear hfz8_0
              try clear hfz8_1
              try clear hfz8_2
              try clear hfz8_3
              try clear hx106_0
              try clear p106
              try clear p2
              try clear q106
              obtain ⟨x3_2, x39_2, rfl, HA, HK2, HO_3, BK101, HB⟩ := hrel
              cases gk with
              | zero => exact absurd HA.out (by simp [wire_Bytes.l1])
              | succ k2 =>
                have H := HA.out
                clear HA
                simp only [wire_Bytes.l1] at H
                by_cases c26 : x39_2 < (l0_2.length : Int)
                · rw [if_pos c26] at H
                  have c26b0 : decide (x39_2 < (l0_2.length : Int)) = true := decide_eq_true c26
                  clear c26
                  by_cases c27 : 0 ≤ x39_2
                  · rw [if_pos c27] at H
                    have c27b0 : decide (0 ≤ x39_2) = true := decide_eq_true c27
                    clear c27
                    by_cases c28 : x39_2 < (l0_2.length : Int)
                    · rw [if_pos c28] at H
                      have c28b0 : decide (x39_2 < (l0_2.length : Int)) = true := decide_eq_true c28
                      clear c28
                      replace H := Option.bind_eq_some_iff.mp H
                      obtain ⟨t121, A290, H⟩ := H
                      replace H : (if x3_2.length + t121.length < 140737488355328 then (wire_Bytes.l1 k2 (x3_2 ++ t121) l0_2 (l0_2.length : Int) (wrap64 (x39_2 + 1)) a0_0 l0_1 l0_2 l0_3) else (none)) = some r := H
                      have A29 := Aside0.mk A290
                      clear A290
                      by_cases c30 : x3_2.length + t121.length < 140737488355328
                      · rw [if_pos c30] at H
                        have LMc30 := Aside0.mk c30
                        clear c30
                        obtain ⟨y124, hy124⟩ : ∃ y_ : List Int, y_ = (x3_2 ++ t121) := ⟨_, rfl⟩
                        replace H : (wire_Bytes.l1 k2 y124 l0_2 (l0_2.length : Int) (wrap64 (x39_2 + 1)) a0_0 l0_1 l0_2 l0_3) = some r := by first | (rw [hy124]; with_reducible exact H) | (have H2_ := (Option.bind_some _ _).symm.trans H; rw [hy124]; with_reducible exact H2_) | (have H2_ := (Option.bind_some _ _).symm.trans H; with_reducible exact H2_) | with_reducible exact H | (rw [hy124]; exact H) | exact H
                        have Ny124 := Aside0.mk hy124
                        clear hy124
                        have H' := Aside0.mk H
                        clear H
                        have p119 : 0 ≤ (x39_2 : Int) := of_decide_eq_true (by first | (with_reducible assumption) | assumption)
                        have q119 : x39_2 < (l0_2.length : Int) := of_decide_eq_true (by first | (with_reducible assumption) | assumption)
                        obtain ⟨ad119, e119, hx119_0, hx119_1⟩ := at_T45 HR0_2.out x39_2 p119 q119
                        cases e119
                        replace hx119_0 := (HB.out.cell (World.block_lt_of_cell? w _ hx119_0)).trans hx119_0
                        replace hx119_1 := (HB.out.cell (World.block_lt_of_cell? w _ hx119_1)).trans hx119_1
                        replace p119 := eq_true p119
                        replace q119 := eq_true q119
                        go_wp2_with (first | ((with_reducible refine gate_dst (N := 7) rfl ?_); refine box_event ?hg (N := 7) ?hd (cs := #[.int .u32 0, .int .i64 0]) (t := 45) ?hr ?_; (case hd => rfl); (case hg => rfl); (case hr => first | (go_simp; done) | (go_simp; rfl)); intro gb120 hg w31 hbox hb; have n0_ := Aside0.mk (Kd.R_below (by (with_reducible repeat (first | apply Kd.R_alloc | apply Kd.R_drewN | apply Kd.R_drew)); exact HO_3.out) hb); have n1_ := Aside0.mk (blk_below (g := gb101) (o := .cells #[.int .i64 a0_0, .slice A0_1 l0_1.length c0_1, .slice (some ad119) l0_2.length c0_2, .slice A0_3 l0_3.length c0_3] 26 (0, 0)) (by (with_reducible repeat (first | refine blk_drewN ?_ _ | refine blk_drew ?_ | refine blk_alloc ?_ _)); exact BK101.out) hb); have n2_ := Aside0.mk (below_step (by repeat (first | (with_reducible first | exact HB.out | apply below_alloc | apply pw_below_drewN | apply below_drew1 | refine below_set ?_ GE101.out) | exact HB.out)) hb); have n3_ := Aside0.mk (hbox); have n4_ := Aside0.mk ((by rw [hg]; exact (below_size (by repeat (first | (with_reducible first | exact HB.out | apply below_alloc | apply pw_below_drewN | apply below_drew1 | refine below_set ?_ GE101.out) | exact HB.out))) : w.heap.size ≤ gb120)); have n5_ := Aside0.mk ((by rw [hg]; exact (below_size (by repeat (first | (with_reducible first | exact HB.out | apply below_alloc | apply pw_below_drewN | apply below_drew1 | refine below_set ?_ GE101.out) | exact HB.out))) : w.heap.size ≤ gb120)); have n6_ := Aside0.mk ((by rw [hg]; exact Nat.ne_of_lt (blk_lt (g := gb101) (o := .cells #[.int .i64 a0_0, .slice A0_1 l0_1.length c0_1, .slice (some ad119) l0_2.length c0_2, .slice A0_3 l0_3.length c0_3] 26 (0, 0)) (by (with_reducible repeat (first | refine blk_drewN ?_ _ | refine blk_drew ?_ | refine blk_alloc ?_ _)); exact BK101.out)) : gb101 ≠ gb120)); have n7_ := Aside0.mk ((by rw [hg]; exact Nat.ne_of_gt (blk_lt (g := gb101) (o := .cells #[.int .i64 a0_0, .slice A0_1 l0_1.length c0_1, .slice (some ad119) l0_2.length c0_2, .slice A0_3 l0_3.length c0_3] 26 (0, 0)) (by (with_reducible repeat (first | refine blk_drewN ?_ _ | refine blk_drew ?_ | refine blk_alloc ?_ _)); exact BK101.out)) : gb120 ≠ gb101)); clear HO_3; clear BK101; clear HB; have HO_3 := n0_; have BK101 := n1_; have HB := n2_; have BK120 := n3_; have GW120 := n4_; have GE120 := n5_; have NB101_120 := n6_; have NB120_101 := n7_; clear n0_ n1_ n2_ n3_ n4_ n5_ n6_ n7_; clear hb hbox hg; have hnb32 := NB120_101.out; have hnc32 := NB101_120.out; have hcz33_0 : w31.cell? ⟨gb120, 0, none⟩ = some (.int .u32 0) := (blk_cell BK120.out 0).trans rfl; have hcz33_1 : w31.cell? ⟨gb120, 1, none⟩ = some (.int .i64 0) := (blk_cell BK120.out 1).trans rfl; have hfz33_0 := blk_frozen BK120.out 0; have hfz33_1 := blk_frozen BK120.out 1) | ((with_reducible refine gate_callee (f := 22) rfl ?_); refine goesL_ (some 45) rfl rfl Try.func22 (by kernel_rfl) rfl #[.agg #[.int .u32 ((rd_T45 l0_2 x39_2).f0), .int .i64 ((rd_T45 l0_2 x39_2).f1)]] rfl (by (try simp only [List.map_toArray, List.map_cons, List.map_nil]); first | done | rfl | (simp only [List.length_drop, List.length_take]; rfl)) ?_; (with_reducible refine (addr_Bytes.calls ((rd_T45 l0_2 x39_2).f0) ((rd_T45 l0_2 x39_2).f1) t121 _ A29.out).mono ?_); rintro e w34 ⟨v122, rfl, ho0, hb⟩; refine ⟨_, rfl, ?_⟩; have n0_ := Aside0.mk (Kd.R_elder' (by (with_reducible repeat (first | apply Kd.R_alloc | apply Kd.R_drewN | apply Kd.R_drew)); exact (Kd.R_mono (Kd.R_far (p := ⟨gb120, 1, none⟩) (Kd.R_far (p := ⟨gb120, 0, none⟩) (Kd.R_types HO_3.out BK120.out (by decide)) (fun _ hk => hk.2) (.int .u32 ((rd_T45 l0_2 x39_2).f0))) (fun _ hk => hk.2) (.int .i64 ((rd_T45 l0_2 x39_2).f1))) (fun _ h_ => h_.1))) (Kd.R_base ho0) hb); have n1_ := Aside0.mk (Kd.R_lower (Kd.R_new' ho0 (Kd.R_lt (by (with_reducible repeat (first | apply Kd.R_alloc | apply Kd.R_drewN | apply Kd.R_drew)); exact (Kd.R_mono (Kd.R_far (p := ⟨gb120, 1, none⟩) (Kd.R_far (p := ⟨gb120, 0, none⟩) (Kd.R_types HO_3.out BK120.out (by decide)) (fun _ hk => hk.2) (.int .u32 ((rd_T45 l0_2 x39_2).f0))) (fun _ hk => hk.2) (.int .i64 ((rd_T45 l0_2 x39_2).f1))) (fun _ h_ => h_.1))))) (below_size (by repeat (first | (with_reducible first | exact HB.out | apply below_alloc | apply pw_below_drewN | apply below_drew1 | refine below_set ?_ GE101.out | refine below_set ?_ GE120.out) | exact HB.out)))); have n2_ := Aside0.mk (blk_below (g := gb101) (o := .cells #[.int .i64 a0_0, .slice A0_1 l0_1.length c0_1, .slice (some ad119) l0_2.length c0_2, .slice A0_3 l0_3.length c0_3] 26 (0, 0)) (by (with_reducible repeat (first | refine blk_drewN ?_ _ | refine blk_drew ?_ | refine blk_alloc ?_ _)); refine blk_far ?_ NB101_120.out _; (with_reducible repeat (first | refine blk_drewN ?_ _ | refine blk_drew ?_ | refine blk_alloc ?_ _)); refine blk_far ?_ NB101_120.out _; (with_reducible repeat (first | refine blk_drewN ?_ _ | refine blk_drew ?_ | refine blk_alloc ?_ _)); exact BK101.out) hb); have n3_ := Aside0.mk (blk_below (g := gb120) (o := .cells #[.int .u32 ((rd_T45 l0_2 x39_2).f0), .int .i64 ((rd_T45 l0_2 x39_2).f1)] 45 (0, 0)) (by (with_reducible repeat (first | refine blk_drewN ?_ _ | refine blk_drew ?_ | refine blk_alloc ?_ _)); refine blk_put (cs := #[.int .u32 ((rd_T45 l0_2 x39_2).f0), .int .i64 0]) ?_ 1 _ rfl; (with_reducible repeat (first | refine blk_drewN ?_ _ | refine blk_drew ?_ | refine blk_alloc ?_ _)); refine blk_put (cs := #[.int .u32 0, .int .i64 0]) ?_ 0 _ rfl; (with_reducible repeat (first | refine blk_drewN ?_ _ | refine blk_drew ?_ | refine blk_alloc ?_ _)); exact BK120.out) hb); have n4_ := Aside0.mk (below_step (by repeat (first | (with_reducible first | exact HB.out | apply below_alloc | apply pw_below_drewN | apply below_drew1 | refine below_set ?_ GE101.out | refine below_set ?_ GE120.out) | exact HB.out)) hb); clear HO_3; clear BK101; clear BK120; clear HB; have HO_3 := n0_; have HO123 := n1_; have BK101 := n2_; have BK120 := n3_; have HB := n4_; clear n0_ n1_ n2_ n3_ n4_; (try clear hb); (try clear hb2); (try clear hk); (try clear hi); (try clear ho0); obtain ⟨Ao36, co36, eo36⟩ := Kd.R_slice HO123.out; subst eo36) | ((with_reducible refine gate_builtin (b := .append) (xs := #[.tmp 43, .tmp 45]) rfl ?_); at_builtin; refine Kd.R_append_rows (Kd.int .u8) (w0 := w) w.heap.size rfl (.tmp 43) (.tmp 45) 24 5 (.int .u8 0) 1 rfl Try.underlying24 info5 rfl (by decide) (by omega) u3 x3_2 t121 _ _ _ (fun k_ => some k_ ≠ (.slice Ao36 t121.length co36 : Value).ownBlock) (fun _ => False) rfl rfl ?aO ?aR (fun _ _ h => h) (fun _ h => h.elim) ?aF ?aB ?aS ?aL ?_; (case aR => repeat (first | exact (Kd.R_reads' HO123.out).2.2 | (with_reducible refine Kd.C_alloc ?_ _) | (with_reducible refine Kd.C_drewN ?_ _) | (with_reducible refine Kd.C_drew ?_))); (case aB => exact (by repeat (first | (with_reducible first | exact HB.out | apply below_alloc | apply pw_below_drewN | apply below_drew1 | refine below_set ?_ GE101.out | refine below_set ?_ GE120.out) | exact HB.out))); (case aF => exact (fun k_ hk => Kd.fresh' (Kd.R_lt (by (with_reducible repeat (first | apply Kd.R_alloc | apply Kd.R_drewN | apply Kd.R_drew)); exact HO123.out)) k_ hk)); (case aO => exact (by (with_reducible repeat (first | apply Kd.R_alloc | apply Kd.R_drewN | apply Kd.R_drew)); exact Kd.R_mono HO_3.out (fun _ hk => hk.2))); (case aS => exact (below_size (by repeat (first | (with_reducible first | exact HB.out | apply below_alloc | apply pw_below_drewN | apply below_drew1 | refine below_set ?_ GE101.out | refine below_set ?_ GE120.out) | exact HB.out)))); (case aL => have := LMc30.out; omega); intro v125 w35 ho hb hg hat; rw [← Ny124.out] at ho; have n0_ := Aside0.mk (blk_grown (g := gb101) (o := .cells #[.int .i64 a0_0, .slice A0_1 l0_1.length c0_1, .slice (some ad119) l0_2.length c0_2, .slice A0_3 l0_3.length c0_3] 26 (0, 0)) (by (with_reducible repeat (first | refine blk_drewN ?_ _ | refine blk_drew ?_ | refine blk_alloc ?_ _)); exact BK101.out) hg (Kd.R_ne HO_3.out BK101.out (by decide))); have n1_ := Aside0.mk (blk_grown (g := gb120) (o := .cells #[.int .u32 ((rd_T45 l0_2 x39_2).f0), .int .i64 ((rd_T45 l0_2 x39_2).f1)] 45 (0, 0)) (by (with_reducible repeat (first | refine blk_drewN ?_ _ | refine blk_drew ?_ | refine blk_alloc ?_ _)); exact BK120.out) hg (Kd.R_ne HO_3.out BK120.out (by decide))); have n2_ := Aside0.mk (Kd.R_after (ok := (fun _ => True)) (by (with_reducible repeat (first | apply Kd.R_alloc | apply Kd.R_drewN | apply Kd.R_drew)); exact HO123.out) hg hat); have n3_ := Aside0.mk (hb); have n4_ := Aside0.mk (ho); clear BK101; clear BK120; clear HO123; clear HB; clear HO_3; have BK101 := n0_; have BK120 := n1_; have HO123 := n2_; have HB := n3_; have HO126 := n4_; clear n0_ n1_ n2_ n3_ n4_; clear ho hb hg hat))
                        go_roundg k2
                        case measure => have := HK1.out; have := HK2.out; omega
                        case rel => exact ⟨(y124), (wrap64 (x39_2 + 1)), (by first | rfl | (simp; done) | (simp [*]; done)), H', ⟨by have := HK1.out; have := HK2.out; omega⟩, ⟨by (with_reducible repeat (first | apply Kd.R_alloc | apply Kd.R_drewN | apply Kd.R_drew)); exact Kd.R_mono HO126.out (fun _ hk => trivial)⟩, ⟨by (with_reducible repeat (first | refine blk_drewN ?_ _ | refine blk_drew ?_ | refine blk_alloc ?_ _)); exact BK101.out⟩, ⟨by repeat (first | (with_reducible first | exact HB.out | apply below_alloc | apply pw_below_drewN | apply below_drew1 | refine below_set ?_ GE101.out | refine below_set ?_ GE120.out) | exact HB.out)⟩⟩
                      · rw [if_neg c30] at H
                        exact absurd H (by simp)
                    · rw [if_neg c28] at H
                      exact absurd H (by simp)
                  · rw [if_neg c27] at H
                    exact absurd H (by simp)
                · rw [if_neg c26] at H
                  have c26b0 : decide (x39_2 < (l0_2.length : Int)) = false := decide_eq_false c26
                  clear c26
                  replace H := Option.bind_eq_some_iff.mp H
                  obtain ⟨⟨t127, t128⟩, A370, H⟩ := H
                  replace H : (if x3_2.length + t127.length < 140737488355328 then (some (x3_2 ++ t127)) else (none)) = some r := H
                  have A37 := Aside0.mk A370
                  clear A370
                  by_cases c38 : x3_2.length + t127.length < 140737488355328
                  · rw [if_pos c38] at H
                    have LMc38 := Aside0.mk c38
                    clear c38
                    obtain ⟨y131, hy131⟩ : ∃ y_ : List Int, y_ = (x3_2 ++ t127) := ⟨_, rfl⟩
                    replace H : (some y131) = some r := by first | (rw [hy131]; with_reducible exact H) | (have H2_ := (Option.bind_some _ _).symm.trans H; rw [hy131]; with_reducible exact H2_) | (have H2_ := (Option.bind_some _ _).symm.trans H; with_reducible exact H2_) | with_reducible exact H | (rw [hy131]; exact H) | exact H
                    have Ny131 := Aside0.mk hy131
                    clear hy131
                    obtain rfl := Option.some.inj H
                    have hcz39_0 : wr.cell? ⟨gb101, 0, none⟩ = some (.int .i64 a0_0) := (blk_cell BK101.out 0).trans rfl
                    have hcz39_1 : wr.cell? ⟨gb101, 1, none⟩ = some (.slice A0_1 l0_1.length c0_1) := (blk_cell BK101.out 1).trans rfl
                    have hcz39_2 : wr.cell? ⟨gb101, 2, none⟩ = some (.slice A0_2 l0_2.length c0_2) := (blk_cell BK101.out 2).trans rfl
                    have hcz39_3 : wr.cell? ⟨gb101, 3, none⟩ = some (.slice A0_3 l0_3.length c0_3) := (blk_cell BK101.out 3).trans rfl
                    have hfz39_0 := blk_frozen BK101.out 0
                    have hfz39_1 := blk_frozen BK101.out 1
                    have hfz39_2 := blk_frozen BK101.out 2
                    have hfz39_3 := blk_frozen BK101.out 3
                    go_wp2_with (first | ((with_reducible refine gate_callee (f := 23) rfl ?_); refine goesL_ (some 51) rfl rfl Try.func23 (by kernel_rfl) rfl #[.slice A0_3 l0_3.length c0_3] rfl (by (try simp only [List.map_toArray, List.map_cons, List.map_nil]); first | done | rfl | (simp only [List.length_drop, List.length_take]; rfl)) ?_; (with_reducible refine (frame_Put.calls _ _ l0_3 t127 t128 _ ?side1 ?side2 A37.out).mono ?_); (case side1 => repeat (first | exact (Kd.C_below HR0_3.out HB.out) | (with_reducible refine Kd.C_alloc ?_ _) | (with_reducible refine Kd.C_drewN ?_ _) | (with_reducible refine Kd.C_drew ?_))); (case side2 => exact HC0_3.out); rintro e w40 ⟨v129, rfl, ho0, hb⟩; refine ⟨_, rfl, ?_⟩; have n0_ := Aside0.mk (Kd.R_elder' (by (with_reducible repeat (first | apply Kd.R_alloc | apply Kd.R_drewN | apply Kd.R_drew)); exact HO_3.out) (Kd.R_base ho0) hb); have n1_ := Aside0.mk (Kd.R_lower (Kd.R_new' ho0 (Kd.R_lt (by (with_reducible repeat (first | apply Kd.R_alloc | apply Kd.R_drewN | apply Kd.R_drew)); exact HO_3.out))) (below_size (by repeat (first | (with_reducible first | exact HB.out | apply below_alloc | apply pw_below_drewN | apply below_drew1 | refine below_set ?_ GE101.out) | exact HB.out)))); have n2_ := Aside0.mk (blk_below (g := gb101) (o := .cells #[.int .i64 a0_0, .slice A0_1 l0_1.length c0_1, .slice A0_2 l0_2.length c0_2, .slice A0_3 l0_3.length c0_3] 26 (0, 0)) (by (with_reducible repeat (first | refine blk_drewN ?_ _ | refine blk_drew ?_ | refine blk_alloc ?_ _)); exact BK101.out) hb); have n3_ := Aside0.mk (below_step (by repeat (first | (with_reducible first | exact HB.out | apply below_alloc | apply pw_below_drewN | apply below_drew1 | refine below_set ?_ GE101.out) | exact HB.out)) hb); clear HO_3; clear BK101; clear HB; have HO_3 := n0_; have HO130 := n1_; have BK101 := n2_; have HB := n3_; clear n0_ n1_ n2_ n3_; (try clear hb); (try clear hb2); (try clear hk); (try clear hi); (try clear ho0); obtain ⟨Ao42, co42, eo42⟩ := Kd.R_slice HO130.out; subst eo42) | ((with_reducible refine gate_builtin (b := .append) (xs := #[.tmp 54, .tmp 55]) rfl ?_); at_builtin; refine Kd.R_append_rows (Kd.int .u8) (w0 := w) w.heap.size rfl (.tmp 54) (.tmp 55) 24 5 (.int .u8 0) 1 rfl Try.underlying24 info5 rfl (by decide) (by omega) u3 x3_2 t127 _ _ _ (fun k_ => some k_ ≠ (.slice Ao42 t127.length co42 : Value).ownBlock) (fun _ => False) rfl rfl ?aO ?aR (fun _ _ h => h) (fun _ h => h.elim) ?aF ?aB ?aS ?aL ?_; (case aR => repeat (first | exact (Kd.R_reads' HO130.out).2.2 | (with_reducible refine Kd.C_alloc ?_ _) | (with_reducible refine Kd.C_drewN ?_ _) | (with_reducible refine Kd.C_drew ?_))); (case aB => exact (by repeat (first | (with_reducible first | exact HB.out | apply below_alloc | apply pw_below_drewN | apply below_drew1 | refine below_set ?_ GE101.out) | exact HB.out))); (case aF => exact (fun k_ hk => Kd.fresh' (Kd.R_lt (by (with_reducible repeat (first | apply Kd.R_alloc | apply Kd.R_drewN | apply Kd.R_drew)); exact HO130.out)) k_ hk)); (case aO => exact (by (with_reducible repeat (first | apply Kd.R_alloc | apply Kd.R_drewN | apply Kd.R_drew)); exact Kd.R_mono HO_3.out (fun _ hk => hk.2))); (case aS => exact (below_size (by repeat (first | (with_reducible first | exact HB.out | apply below_alloc | apply pw_below_drewN | apply below_drew1 | refine below_set ?_ GE101.out) | exact HB.out)))); (case aL => have := LMc38.out; omega); intro v132 w41 ho hb hg hat; rw [← Ny131.out] at ho; have n0_ := Aside0.mk (blk_grown (g := gb101) (o := .cells #[.int .i64 a0_0, .slice A0_1 l0_1.length c0_1, .slice A0_2 l0_2.length c0_2, .slice A0_3 l0_3.length c0_3] 26 (0, 0)) (by (with_reducible repeat (first | refine blk_drewN ?_ _ | refine blk_drew ?_ | refine blk_alloc ?_ _)); exact BK101.out) hg (Kd.R_ne HO_3.out BK101.out (by decide))); have n1_ := Aside0.mk (Kd.R_after (ok := (fun _ => True)) (by (with_reducible repeat (first | apply Kd.R_alloc | apply Kd.R_drewN | apply Kd.R_drew)); exact HO130.out) hg hat); have n2_ := Aside0.mk (hb); have n3_ := Aside0.mk (ho); clear BK101; clear HO130; clear HB; clear HO_3; have BK101 := n0_; have HO130 := n1_; have HB := n2_; have HO133 := n3_; clear n0_ n1_ n2_ n3_; clear ho hb hg hat))
                    go_ret
                    exact ⟨_, by first | rfl | (simp [errW_none, errW_some] <;> rfl) | (simp [*, errW_none, errW_some] <;> rfl), by (with_reducible repeat (first | apply Kd.R_alloc | apply Kd.R_drewN | apply Kd.R_drew)); exact Kd.R_mono HO133.out (fun _ hk => trivial), by repeat (first | (with_reducible first | exact HB.out | apply below_alloc | apply pw_below_drewN | apply below_drew1 | refine below_set ?_ GE101.out) | exact HB.out)⟩
                  · rw [if_neg c38] at H
                    exact absurd H (by simp)
          · rw [if_neg c20] at H
            exact absurd H (by simp)
  · replace c3 := Bool.eq_false_iff.mpr c3
    subst c3
    have H1 : (some ([] : List Int)) = some r := by rw [if_neg (show ¬ (false = true) by decide)] at H; exact H
    clear H
    have H := H1
    clear H1
    obtain rfl := Option.some.inj H
    go_enter Try.func11, Try.ntmps11
    go_wp2_with (first | ((with_reducible refine gate_dst (N := 1) rfl ?_); refine box_event ?hg (N := 1) ?hd (cs := #[.int .i64 a0_0, .slice A0_1 l0_1.length c0_1, .slice A0_2 l0_2.length c0_2, .slice A0_3 l0_3.length c0_3]) (t := 26) ?hr ?_; (case hd => rfl); (case hg => rfl); (case hr => first | (go_simp; done) | (go_simp; rfl)); intro gb101 hg w43 hbox hb; have n0_ := Aside0.mk (below_step (by repeat (first | (with_reducible first | exact HB.out | apply below_alloc | apply pw_below_drewN | apply below_drew1) | exact HB.out)) hb); have n1_ := Aside0.mk (hbox); have n2_ := Aside0.mk ((by rw [hg]; exact (below_size (by repeat (first | (with_reducible first | exact HB.out | apply below_alloc | apply pw_below_drewN | apply below_drew1) | exact HB.out))) : w.heap.size ≤ gb101)); have n3_ := Aside0.mk ((by rw [hg]; exact (below_size (by repeat (first | (with_reducible first | exact HB.out | apply below_alloc | apply pw_below_drewN | apply below_drew1) | exact HB.out))) : w.heap.size ≤ gb101)); clear HB; have HB := n0_; have BK101 := n1_; have GW101 := n2_; have GE101 := n3_; clear n0_ n1_ n2_ n3_; clear hb hbox hg; have hcz44_0 : w43.cell? ⟨gb101, 0, none⟩ = some (.int .i64 a0_0) := (blk_cell BK101.out 0).trans rfl; have hcz44_1 : w43.cell? ⟨gb101, 1, none⟩ = some (.slice A0_1 l0_1.length c0_1) := (blk_cell BK101.out 1).trans rfl; have hcz44_2 : w43.cell? ⟨gb101, 2, none⟩ = some (.slice A0_2 l0_2.length c0_2) := (blk_cell BK101.out 2).trans rfl; have hcz44_3 : w43.cell? ⟨gb101, 3, none⟩ = some (.slice A0_3 l0_3.length c0_3) := (blk_cell BK101.out 3).trans rfl; have hfz44_0 := blk_frozen BK101.out 0; have hfz44_1 := blk_frozen BK101.out 1; have hfz44_2 := blk_frozen BK101.out 2; have hfz44_3 := blk_frozen BK101.out 3) | ((with_reducible refine gate_callee (f := 12) rfl ?_); refine goesL_ (some 11) rfl rfl Try.func12 (by kernel_rfl) rfl #[.agg #[.int .i64 a0_0, .slice A0_1 l0_1.length c0_1, .slice A0_2 l0_2.length c0_2, .slice A0_3 l0_3.length c0_3]] rfl (by (try simp only [List.map_toArray, List.map_cons, List.map_nil]); first | done | rfl | (simp only [List.length_drop, List.length_take]; rfl)) ?_; (with_reducible refine (wire_May.calls a0_0 _ _ l0_1 _ _ l0_2 _ _ l0_3 false _ ?side1 ?side2 ?side3 ?side4 ?side5 ?side6 A2.out).mono ?_); (case side1 => repeat (first | exact (Kd.C_below HR0_1.out HB.out) | (with_reducible refine Kd.C_alloc ?_ _) | (with_reducible refine Kd.C_drewN ?_ _) | (with_reducible refine Kd.C_drew ?_))); (case side2 => exact HC0_1.out); (case side3 => repeat (first | exact (Kd.C_below HR0_2.out HB.out) | (with_reducible refine Kd.C_alloc ?_ _) | (with_reducible refine Kd.C_drewN ?_ _) | (with_reducible refine Kd.C_drew ?_))); (case side4 => exact HC0_2.out); (case side5 => repeat (first | exact (Kd.C_below HR0_3.out HB.out) | (with_reducible refine Kd.C_alloc ?_ _) | (with_reducible refine Kd.C_drewN ?_ _) | (with_reducible refine Kd.C_drew ?_))); (case side6 => exact HC0_3.out); rintro e w45 ⟨rfl, hb⟩; refine ⟨_, rfl, ?_⟩; have n0_ := Aside0.mk (blk_below (g := gb101) (o := .cells #[.int .i64 a0_0, .slice A0_1 l0_1.length c0_1, .slice A0_2 l0_2.length c0_2, .slice A0_3 l0_3.length c0_3] 26 (0, 0)) (by (with_reducible repeat (first | refine blk_drewN ?_ _ | refine blk_drew ?_ | refine blk_alloc ?_ _)); exact BK101.out) hb); have n1_ := Aside0.mk (below_step (by repeat (first | (with_reducible first | exact HB.out | apply below_alloc | apply pw_below_drewN | apply below_drew1 | refine below_set ?_ GE101.out) | exact HB.out)) hb); clear BK101; clear HB; have BK101 := n0_; have HB := n1_; clear n0_ n1_; (try clear hb); (try clear hb2); (try clear hk); (try clear hi)))
    go_ret
    exact ⟨_, by first | rfl | (simp [errW_none, errW_some] <;> rfl) | (simp [*, errW_none, errW_some] <;> rfl), by first | exact Kd.R_nil _ _ _ _ _ | exact Kd.N_nil _ _ _ _ _ | exact Kd.V_nil _ _ _ _ _ | exact Kd.Q_nil _ _ _ _ _ | exact Kd.S_nil _ _ _ _ _, by repeat (first | (with_reducible first | exact HB.out | apply below_alloc | apply pw_below_drewN | apply below_drew1 | refine below_set ?_ GE101.out) | exact HB.out)⟩

/-! ### uvar_Get: function 44 -/

-- NOT PRINTED: function 35 (wire_reader_number)

-- NOT PRINTED: function 36 (wire_reader_addrs)

/-! ### bytes_Clone: function 48 -/

/-! ### frame_Get: function 47 -/

-- NOT PRINTED: function 37 (wire_reader_body)

/-! ### wire_FromBytes: function 18 -/
def wire_FromBytes.f (l0 : List Int) : Option (Int × List Int × List S45 × List Int × Int) := if (∀ x ∈ l0, 0 ≤ x ∧ x ≤ 255) ∧ l0.length ≤ 1000000000 then some ((Go.Proofs.Ytklcggcejaecdaa.Wi.fromF l0).1, (Go.Proofs.Ytklcggcejaecdaa.Wi.fromF l0).2.1, (Go.Proofs.Ytklcggcejaecdaa.Wi.fromF l0).2.2.1.map mkS, (Go.Proofs.Ytklcggcejaecdaa.Wi.fromF l0).2.2.2.1, (Go.Proofs.Ytklcggcejaecdaa.Wi.fromF l0).2.2.2.2) else none
theorem wire_FromBytes.calls (A0 : Option Addr) (c0 : Nat) (l0 : List Int) (r1 : Int) (r2 : List Int) (r3 : List (S45)) (r4 : List Int) (r5 : Int) (w : World) (hr0 : Kd.C (Kd.int .u8) w A0 l0.length l0) (hc0 : l0.length ≤ c0) (h : wire_FromBytes.f l0 = some (r1, r2, r3, r4, r5)) :
    Calls Try.prog 18 #[.slice A0 l0.length c0] w fun e w' => ∃ v1_ v2_ v3_ : Value, e = .returned (.tuple #[.agg #[.int .i64 r1, v1_, v2_, v3_], .int .i64 r5]) ∧ Kd.R (Kd.int .u64) 39 w' w.heap.size (fun _ => True) v1_ r2 ∧ Kd.R k45 45 w' w.heap.size (fun _ => True) v2_ r3 ∧ Kd.R (Kd.int .u8) 5 w' w.heap.size (fun _ => True) v3_ r4 ∧ Below w.heap.size w w' := by
  unfold wire_FromBytes.f at h
  by_cases hc : (∀ x ∈ l0, 0 ≤ x ∧ x ≤ 255) ∧ l0.length ≤ 1000000000
  · rw [if_pos hc] at h
    injection h with h
    simp only [Prod.mk.injEq] at h
    obtain ⟨rfl, rfl, rfl, rfl, rfl⟩ := h
    refine (Go.Proofs.Ytklcggcejaecdaa.Wi.fb_calls w A0 l0.length c0 l0 rfl hr0 hc0 hc.1 hc.2).mono fun e w' ⟨v1, v2, v3, h1, h2, h3, h4, h5⟩ => ⟨v1, v2, v3, h1, h2, R_mk h3, h4, h5⟩
  · rw [if_neg hc] at h; cases h

/-! ### embrasurelaw05_awake: function 9 -/
def embrasurelaw05_awake.f (k : Nat) : Option Bool := if wire_Bytes.f k 5 [300] ([] : List S45) [] = some [5, 172, 2, 0, 0] then some true else none
theorem embrasurelaw05_awake.mono : ∀ k, LeO (embrasurelaw05_awake.f k) (embrasurelaw05_awake.f (k + 1)) := fun k r h => by
  unfold embrasurelaw05_awake.f at h ⊢
  by_cases hc : wire_Bytes.f k 5 [300] ([] : List S45) [] = some [5, 172, 2, 0, 0]
  · rw [if_pos hc] at h
    rw [if_pos (wire_Bytes.mono _ _ _ _ k _ hc)]
    exact h
  · rw [if_neg hc] at h; cases h
set_option maxRecDepth 100000 in
set_option maxHeartbeats 2000000 in
theorem embrasurelaw05_awake.calls (k : Nat)  (r : Bool) (w : World) (h : embrasurelaw05_awake.f k  = some r) :
    Calls Try.prog 9 #[] w fun e w' => e = .returned (.bool r) ∧ Below w.heap.size w w' := by
  unfold embrasurelaw05_awake.f at h
  by_cases hc : wire_Bytes.f k 5 [300] ([] : List S45) [] = some [5, 172, 2, 0, 0]
  · rw [if_pos hc] at h
    injection h with h
    subst h
    have H1 := Lib.hid hc
    clear hc
    obtain ⟨W, hW⟩ : ∃ W, w.alloc (.cells #[.int .u64 300] 39) = W := ⟨_, rfl⟩
    have HBW := Lib.hid (show Below w.heap.size w W from by rw [← hW]; exact (Below.refl _ w).alloc (Nat.le_refl _) _)
    have HC := Lib.hid (show Kd.C (Kd.int .u64) W (some ⟨w.heap.size, 0, none⟩) 1 [300] from by
      rw [← hW]
      exact Kd.C_of_reads (d := (0 : Int)) (h1 := fun _ => rfl) ⟨rfl, by decide, fun _ => ⟨_, rfl, fun j hj => by
        rw [add_plain, cell_of_row _ _ _ _ _ _ (heap_alloc_new w _)]
        match j, hj with
        | 0, _ => rfl⟩⟩)
    have K1 := Lib.hid (wire_Bytes.calls k 5 (some ⟨w.heap.size, 0, none⟩) 1 [300] none 0 [] none 0 [] [5, 172, 2, 0, 0] W HC.out (by decide) (Kd.C_nil k45 W) (by decide) (Kd.C_nil (Kd.int .u8) W) (by decide) H1.out)
    go_enter Try.func9, Try.ntmps9
    go_upto_region 2 with (go_at_call 11; refine K1.out.mono ?_; rintro e w1 ⟨v1, rfl, hR1, hb1⟩; obtain ⟨A1, c1, hv1, hc1, hC1⟩ := Kd.R_reads hR1; subst hv1; have HC1 := Lib.hid hC1; have HB1 := Lib.hid (HBW.out.trans (hb1.mono HBW.out.size)); clear hC1 hR1 hb1)
    clear hW
    have K2 := Lib.hid (Go.Proofs.Ytklcggcejaecdaa.Wi.fb_calls w1 A1 5 c1 [5, 172, 2, 0, 0] rfl HC1.out hc1 (by intro x hx; simp at hx; omega) (by decide))
    have HF2 := Lib.hid (show Go.Proofs.Ytklcggcejaecdaa.Wi.fromF [5, 172, 2, 0, 0] = (5, [300], [], [], 0) by decide)
    go_upto_region 3 with (go_at_call 18; refine K2.out.mono ?_; rintro e w2 ⟨v1, v2, v3, rfl, hR1, hR2, hR3, hb2⟩; rw [HF2.out] at hR1 hR2 hR3; (try rw [HF2.out]); obtain ⟨A2, c2, hv1, hc2, hC2⟩ := Kd.R_reads hR1; subst hv1; have HC2 := Lib.hid hC2; have HB2 := Lib.hid (HB1.out.trans (hb2.mono HB1.out.size)); have HB12 := Lib.hid hb2; obtain ⟨A4, c4, hv4, _, _⟩ := Kd.R_reads hR2; subst hv4; obtain ⟨A5, c5, hv5, _, _⟩ := Kd.R_reads hR3; subst hv5; clear hR1 hR2 hR3 hb2 hC2)
    obtain ⟨X2, hX2⟩ : ∃ X, w2.alloc (.cells #[.int .i64 5, .slice A2 1 c2, .slice A4 0 c4, .slice A5 0 c5] 26) = X := ⟨_, rfl⟩
    have hb2 : Below w2.heap.size w2 X2 := by rw [← hX2]; exact (Below.refl _ w2).alloc (Nat.le_refl _) _
    have hg2 : X2.heap[w2.heap.size]? = some (.cells #[.int .i64 5, .slice A2 1 c2, .slice A4 0 c4, .slice A5 0 c5] 26 (0, 0)) := by rw [← hX2]; exact heap_alloc_new w2 _
    have hl2 : w2.heap.size < X2.heap.size := (Array.getElem?_eq_some_iff.1 hg2).1
    have K3 := Lib.hid (Go.Proofs.Ytklcggcejaecdaa.Wi.fb_calls X2 none 0 0 [] rfl (Kd.C_nil (Kd.int .u8) X2) (by decide) (by intro x hx; cases hx) (by decide))
    have HF3 := Lib.hid (show Go.Proofs.Ytklcggcejaecdaa.Wi.fromF [] = (0, [], [], [], 3) by decide)
    rw [hX2]
    clear hX2
    go_upto_region 4 with (go_at_call 18; refine K3.out.mono ?_; rintro e w3 ⟨v1, v2, v3, rfl, hR1, hR2, hR3, hb3⟩; rw [HF3.out] at hR1 hR2 hR3; (try rw [HF3.out]); obtain ⟨A6, c6, hv6, _, _⟩ := Kd.R_reads hR1; subst hv6; obtain ⟨A7, c7, hv7, _, _⟩ := Kd.R_reads hR2; subst hv7; obtain ⟨A8, c8, hv8, _, _⟩ := Kd.R_reads hR3; subst hv8; have HB3 := Lib.hid hb3; clear hR1 hR2 hR3 hb3)
    obtain ⟨X3, hX3⟩ : ∃ X, w3.alloc (.cells #[.int .i64 0, .slice A6 0 c6, .slice A7 0 c7, .slice A8 0 c8] 26) = X := ⟨_, rfl⟩
    have hb23 : Below X2.heap.size X2 X3 := by rw [← hX3]; exact HB3.out.alloc HB3.out.size _
    have hg3 := (hb23.block _ hl2).trans hg2
    have n0 : X3.cell? ⟨w2.heap.size, 0, none⟩ = some (.int .i64 5) := (cell_of_row _ _ 0 _ _ _ hg3).trans rfl
    have n1 : X3.cell? ⟨w2.heap.size, 1, none⟩ = some (.slice A2 1 c2) := (cell_of_row _ _ 1 _ _ _ hg3).trans rfl
    have hw13 := HB12.out.trans ((hb2.trans (hb23.mono hb2.size)).mono HB12.out.size)
    have hC1 := Kd.C_below HC1.out hw13
    obtain ⟨ad1, hA1, hx0⟩ := Kd.at_int hC1 0 (by decide) (by decide)
    obtain ⟨ad1', hA1', hx1⟩ := Kd.at_int hC1 1 (by decide) (by decide)
    obtain rfl : ad1 = ad1' := by rw [hA1] at hA1'; injection hA1'
    subst hA1
    obtain ⟨ad2, hA2, hy0⟩ := Kd.at_int (Kd.C_below HC2.out (hb2.trans (hb23.mono hb2.size))) 0 (by decide) (by decide)
    subst hA2
    have e0 : ∀ ad : Addr, ad.add (0 : Int).toNat = ad := fun ad => by simp [Addr.add]
    rw [e0] at hx0 hy0
    have hx0 : X3.cell? ad1 = some (.int .u8 5) := hx0
    have hx1 : X3.cell? ⟨ad1.block, ad1.off + 1, none⟩ = some (.int .u8 172) := hx1
    have hy0 : X3.cell? ad2 = some (.int .u64 300) := hy0
    have HW3 := Lib.hid (HB2.out.trans ((hb2.trans (hb23.mono hb2.size)).mono HB2.out.size))
    have N0 := Lib.hid (fun V => Go.Proofs.Ytklcggcejaecdaa.Wi.nums_at V 0)
    have N2 := Lib.hid (fun V => Go.Proofs.Ytklcggcejaecdaa.Wi.nums_at V 2)
    have HN0 := Lib.hid (show Go.Proofs.Ytklcggcejaecdaa.Wi.numsF 0 = -1 by decide)
    have HN2 := Lib.hid (show Go.Proofs.Ytklcggcejaecdaa.Wi.numsF 2 = 5 by decide)
    rw [HN0.out] at N0
    rw [HN2.out] at N2
    rw [hX3]
    clear hX3 hb23 hg3 hw13 hC1 e0 hb2 hg2 hl2
    go_wp2_with (first
      | (go_at_call 16; (with_reducible refine (N0.out _).mono ?_); rintro e w4 ⟨rfl, hb4⟩; have HB4 := Lib.hid hb4; clear hb4)
      | (go_at_call 16; (with_reducible refine (N2.out _).mono ?_); rintro e w5 ⟨rfl, hb5⟩; have HB5 := Lib.hid hb5; clear hb5))
    go_ret
    exact ⟨rfl, HW3.out.trans ((HB4.out.trans (HB5.out.mono HB4.out.size)).mono HW3.out.size)⟩
  · rw [if_neg hc] at h; cases h

/-! ### embrasureref05_Small: function 10 -/
def embrasureref05_Small.f (a0_0 : Int) (l0_1 : List Int) (l0_2 : List (S45)) (l0_3 : List Int) : Option (Bool) := if (l0_1.length : Int) ≤ 40 then (if (l0_2.length : Int) ≤ 40 then (some (decide ((l0_3.length : Int) ≤ 3000))) else (some false)) else (some false)
set_option maxHeartbeats 8000000 in
set_option maxRecDepth 100000 in
theorem embrasureref05_Small.calls (a0_0 : Int) (A0_1 : Option Addr) (c0_1 : Nat) (l0_1 : List Int) (A0_2 : Option Addr) (c0_2 : Nat) (l0_2 : List (S45)) (A0_3 : Option Addr) (c0_3 : Nat) (l0_3 : List Int) (r : Bool) (w : World) (hr0_1 : Kd.C (Kd.int .u64) w A0_1 l0_1.length l0_1) (hc0_1 : l0_1.length ≤ c0_1) (hr0_2 : Kd.C k45 w A0_2 l0_2.length l0_2) (hc0_2 : l0_2.length ≤ c0_2) (hr0_3 : Kd.C (Kd.int .u8) w A0_3 l0_3.length l0_3) (hc0_3 : l0_3.length ≤ c0_3) (h : embrasureref05_Small.f a0_0 l0_1 l0_2 l0_3 = some r) :
    Calls Try.prog 10 #[.agg #[.int .i64 a0_0, .slice A0_1 l0_1.length c0_1, .slice A0_2 l0_2.length c0_2, .slice A0_3 l0_3.length c0_3]] w fun e w' => e = .returned (.bool r) ∧ Below w.heap.size w w' := by
  have hu26 := Try.underlying26
  have HR0_1 := Aside0.mk hr0_1
  have HC0_1 := Aside0.mk hc0_1
  clear hr0_1 hc0_1
  have HR0_2 := Aside0.mk hr0_2
  have HC0_2 := Aside0.mk hc0_2
  clear hr0_2 hc0_2
  have HR0_3 := Aside0.mk hr0_3
  have HC0_3 := Aside0.mk hc0_3
  clear hr0_3 hc0_3
  have HB := Aside0.mk (Below.refl w.heap.size w)
  have H : (if (l0_1.length : Int) ≤ 40 then (if (l0_2.length : Int) ≤ 40 then (some (decide ((l0_3.length : Int) ≤ 3000))) else (some false)) else (some false)) = some r := h
  clear h
  by_cases c2 : (l0_1.length : Int) ≤ 40
  · rw [if_pos c2] at H
    have c2b0 : decide ((l0_1.length : Int) ≤ 40) = true := decide_eq_true c2
    have c2b1 : decide (l0_1.length ≤ 40) = true := decide_eq_true (by omega)
    clear c2
    by_cases c3 : (l0_2.length : Int) ≤ 40
    · rw [if_pos c3] at H
      have c3b0 : decide ((l0_2.length : Int) ≤ 40) = true := decide_eq_true c3
      have c3b1 : decide (l0_2.length ≤ 40) = true := decide_eq_true (by omega)
      clear c3
      obtain rfl := Option.some.inj H
      go_enter Try.func10, Try.ntmps10
      go_wp2_with (first | ((with_reducible refine gate_dst (N := 1) rfl ?_); (try (refine gate_guard (by rfl) ?_; dsimp only)); refine box_event ?hg (N := 1) ?hd (cs := #[.int .i64 a0_0, .slice A0_1 l0_1.length c0_1, .slice A0_2 l0_2.length c0_2, .slice A0_3 l0_3.length c0_3]) (t := 26) ?hr ?_; (case hd => rfl); (case hg => rfl); (case hr => first | (go_simp; done) | (go_simp; rfl)); intro gb142 hg w4 hbox hb; have n0_ := Aside0.mk (below_step (by repeat (first | (with_reducible first | exact HB.out | apply below_alloc | apply pw_below_drewN | apply below_drew1) | exact HB.out)) hb); have n1_ := Aside0.mk (hbox); have n2_ := Aside0.mk ((by rw [hg]; exact (below_size (by repeat (first | (with_reducible first | exact HB.out | apply below_alloc | apply pw_below_drewN | apply below_drew1) | exact HB.out))) : w.heap.size ≤ gb142)); have n3_ := Aside0.mk ((by rw [hg]; exact (below_size (by repeat (first | (with_reducible first | exact HB.out | apply below_alloc | apply pw_below_drewN | apply below_drew1) | exact HB.out))) : w.heap.size ≤ gb142)); clear HB; have HB := n0_; have BK142 := n1_; have GW142 := n2_; have GE142 := n3_; clear n0_ n1_ n2_ n3_; clear hb hbox hg; have hcz5_0 : w4.cell? ⟨gb142, 0, none⟩ = some (.int .i64 a0_0) := (blk_cell BK142.out 0).trans rfl; have hcz5_1 : w4.cell? ⟨gb142, 1, none⟩ = some (.slice A0_1 l0_1.length c0_1) := (blk_cell BK142.out 1).trans rfl; have hcz5_2 : w4.cell? ⟨gb142, 2, none⟩ = some (.slice A0_2 l0_2.length c0_2) := (blk_cell BK142.out 2).trans rfl; have hcz5_3 : w4.cell? ⟨gb142, 3, none⟩ = some (.slice A0_3 l0_3.length c0_3) := (blk_cell BK142.out 3).trans rfl; have hfz5_0 := blk_frozen BK142.out 0; have hfz5_1 := blk_frozen BK142.out 1; have hfz5_2 := blk_frozen BK142.out 2; have hfz5_3 := blk_frozen BK142.out 3))
      go_ret
      exact ⟨by first | rfl | (simp [errW_none, errW_some] <;> rfl) | (simp [*, errW_none, errW_some] <;> rfl), by repeat (first | (with_reducible first | exact HB.out | apply below_alloc | apply pw_below_drewN | apply below_drew1 | refine below_set ?_ GE142.out) | exact HB.out)⟩
    · rw [if_neg c3] at H
      have c3b0 : decide ((l0_2.length : Int) ≤ 40) = false := decide_eq_false c3
      have c3b1 : decide (l0_2.length ≤ 40) = false := decide_eq_false (by omega)
      clear c3
      obtain rfl := Option.some.inj H
      go_enter Try.func10, Try.ntmps10
      go_wp2_with (first | ((with_reducible refine gate_dst (N := 1) rfl ?_); (try (refine gate_guard (by rfl) ?_; dsimp only)); refine box_event ?hg (N := 1) ?hd (cs := #[.int .i64 a0_0, .slice A0_1 l0_1.length c0_1, .slice A0_2 l0_2.length c0_2, .slice A0_3 l0_3.length c0_3]) (t := 26) ?hr ?_; (case hd => rfl); (case hg => rfl); (case hr => first | (go_simp; done) | (go_simp; rfl)); intro gb142 hg w6 hbox hb; have n0_ := Aside0.mk (below_step (by repeat (first | (with_reducible first | exact HB.out | apply below_alloc | apply pw_below_drewN | apply below_drew1) | exact HB.out)) hb); have n1_ := Aside0.mk (hbox); have n2_ := Aside0.mk ((by rw [hg]; exact (below_size (by repeat (first | (with_reducible first | exact HB.out | apply below_alloc | apply pw_below_drewN | apply below_drew1) | exact HB.out))) : w.heap.size ≤ gb142)); have n3_ := Aside0.mk ((by rw [hg]; exact (below_size (by repeat (first | (with_reducible first | exact HB.out | apply below_alloc | apply pw_below_drewN | apply below_drew1) | exact HB.out))) : w.heap.size ≤ gb142)); clear HB; have HB := n0_; have BK142 := n1_; have GW142 := n2_; have GE142 := n3_; clear n0_ n1_ n2_ n3_; clear hb hbox hg; have hcz7_0 : w6.cell? ⟨gb142, 0, none⟩ = some (.int .i64 a0_0) := (blk_cell BK142.out 0).trans rfl; have hcz7_1 : w6.cell? ⟨gb142, 1, none⟩ = some (.slice A0_1 l0_1.length c0_1) := (blk_cell BK142.out 1).trans rfl; have hcz7_2 : w6.cell? ⟨gb142, 2, none⟩ = some (.slice A0_2 l0_2.length c0_2) := (blk_cell BK142.out 2).trans rfl; have hcz7_3 : w6.cell? ⟨gb142, 3, none⟩ = some (.slice A0_3 l0_3.length c0_3) := (blk_cell BK142.out 3).trans rfl; have hfz7_0 := blk_frozen BK142.out 0; have hfz7_1 := blk_frozen BK142.out 1; have hfz7_2 := blk_frozen BK142.out 2; have hfz7_3 := blk_frozen BK142.out 3))
      go_ret
      exact ⟨by first | rfl | (simp [errW_none, errW_some] <;> rfl) | (simp [*, errW_none, errW_some] <;> rfl), by repeat (first | (with_reducible first | exact HB.out | apply below_alloc | apply pw_below_drewN | apply below_drew1 | refine below_set ?_ GE142.out) | exact HB.out)⟩
  · rw [if_neg c2] at H
    have c2b0 : decide ((l0_1.length : Int) ≤ 40) = false := decide_eq_false c2
    have c2b1 : decide (l0_1.length ≤ 40) = false := decide_eq_false (by omega)
    clear c2
    obtain rfl := Option.some.inj H
    go_enter Try.func10, Try.ntmps10
    go_wp2_with (first | ((with_reducible refine gate_dst (N := 1) rfl ?_); (try (refine gate_guard (by rfl) ?_; dsimp only)); refine box_event ?hg (N := 1) ?hd (cs := #[.int .i64 a0_0, .slice A0_1 l0_1.length c0_1, .slice A0_2 l0_2.length c0_2, .slice A0_3 l0_3.length c0_3]) (t := 26) ?hr ?_; (case hd => rfl); (case hg => rfl); (case hr => first | (go_simp; done) | (go_simp; rfl)); intro gb142 hg w8 hbox hb; have n0_ := Aside0.mk (below_step (by repeat (first | (with_reducible first | exact HB.out | apply below_alloc | apply pw_below_drewN | apply below_drew1) | exact HB.out)) hb); have n1_ := Aside0.mk (hbox); have n2_ := Aside0.mk ((by rw [hg]; exact (below_size (by repeat (first | (with_reducible first | exact HB.out | apply below_alloc | apply pw_below_drewN | apply below_drew1) | exact HB.out))) : w.heap.size ≤ gb142)); have n3_ := Aside0.mk ((by rw [hg]; exact (below_size (by repeat (first | (with_reducible first | exact HB.out | apply below_alloc | apply pw_below_drewN | apply below_drew1) | exact HB.out))) : w.heap.size ≤ gb142)); clear HB; have HB := n0_; have BK142 := n1_; have GW142 := n2_; have GE142 := n3_; clear n0_ n1_ n2_ n3_; clear hb hbox hg; have hcz9_0 : w8.cell? ⟨gb142, 0, none⟩ = some (.int .i64 a0_0) := (blk_cell BK142.out 0).trans rfl; have hcz9_1 : w8.cell? ⟨gb142, 1, none⟩ = some (.slice A0_1 l0_1.length c0_1) := (blk_cell BK142.out 1).trans rfl; have hcz9_2 : w8.cell? ⟨gb142, 2, none⟩ = some (.slice A0_2 l0_2.length c0_2) := (blk_cell BK142.out 2).trans rfl; have hcz9_3 : w8.cell? ⟨gb142, 3, none⟩ = some (.slice A0_3 l0_3.length c0_3) := (blk_cell BK142.out 3).trans rfl; have hfz9_0 := blk_frozen BK142.out 0; have hfz9_1 := blk_frozen BK142.out 1; have hfz9_2 := blk_frozen BK142.out 2; have hfz9_3 := blk_frozen BK142.out 3))
    go_ret
    exact ⟨by first | rfl | (simp [errW_none, errW_some] <;> rfl) | (simp [*, errW_none, errW_some] <;> rfl), by repeat (first | (with_reducible first | exact HB.out | apply below_alloc | apply pw_below_drewN | apply below_drew1 | refine below_set ?_ GE142.out) | exact HB.out)⟩

end Go.Proofs.Ytklcggcejaecdaa.J
