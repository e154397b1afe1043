/-
  relay: each call, whatever its arguments; plain answers at the statements' own numbers. Conditions: as the theorems state them.
  Layer 25's awake. No condition.
-/
import Derived.Test.YteajlffchdbkjaaMDa
namespace Go.Proofs.Yteajlffchdbkjaa.Re
open Go.RowKit Go.Maps Go.Shelf Go.Proofs.Yteajlffchdbkjaa.Rv Go.Proofs.Yteajlffchdbkjaa.Ci Go.Proofs.Yteajlffchdbkjaa.Sp Go.Proofs.YteajlffchdbkjaaW.PrintWords Go.Proofs.YteajlffchdbkjaaW.PrintLast Go.Proofs.YteajlffchdbkjaaW.PrintMore
set_option linter.unusedVariables false
set_option linter.unusedSimpArgs false
instance decPeer (n : Int) : Decidable (isPeer n) := by unfold isPeer; infer_instance
instance decRes (s : RelS) (t p host : Int) : Decidable (resBad s t p host) := by unfold resBad; infer_instance
instance decCon (s : RelS) (t a b : Int) : Decidable (conBad s t a b) := by unfold conBad; infer_instance
def ResT (s : RelS) (t p host : Int) : Int × Int × RelS := if resBad s t p host then (0, 1, s) else ResF s t p host
def ConT (s : RelS) (t a b : Int) : Int × Int × RelS := if conBad s t a b then (0, 1, s) else ConF s t a b
/-- A relay in memory, k steps behind its making. -/
def RelK (k : Nat) (w : World) (r gN : Nat) (s : RelS) (av : Nat → Prop) : Prop := ∃ base gR bR nR gC, RelW w base r gN gR bR nR gC s av ∧ RInv k s ∧ nR ≤ k
theorem RelK.inv {k : Nat} {w : World} {r gN : Nat} {s : RelS} {av : Nat → Prop} (h : RelK k w r gN s av) : RInv k s := by obtain ⟨_, _, _, _, _, _, h, _⟩ := h; exact h
theorem RelK.sub {k : Nat} {w : World} {r gN : Nat} {s : RelS} {av av' : Nat → Prop} (h : RelK k w r gN s av) (hs : ∀ k, av' k → av k) : RelK k w r gN s av' := by
  obtain ⟨base, gR, bR, nR, gC, h1, h2⟩ := h
  exact ⟨base, gR, bR, nR, gC, h1.sub hs, h2⟩
theorem RelK.step {k : Nat} {w w1 : World} {r gN : Nat} {s : RelS} {av : Nat → Prop} (h : RelK k w r gN s av) (hb : Below w.heap.size w w1) : RelK k w1 r gN s (fun k => av k ∨ (w.heap.size ≤ k ∧ k < w1.heap.size)) := by
  obtain ⟨base, gR, bR, nR, gC, h1, h2⟩ := h
  exact ⟨base, gR, bR, nR, gC, h1.step hb, h2⟩
theorem RelK.lt {k : Nat} {w : World} {r gN : Nat} {s : RelS} {av : Nat → Prop} (h : RelK k w r gN s av) : ∀ b, av b → b < w.heap.size := by
  obtain ⟨base, gR, bR, nR, gC, h1, h2⟩ := h
  exact h1.lt
theorem RelK.mono {k k' : Nat} {w : World} {r gN : Nat} {s : RelS} {av : Nat → Prop} (h : RelK k w r gN s av) (hk : k ≤ k') : RelK k' w r gN s av := by
  obtain ⟨base, gR, bR, nR, gC, h1, h2, h3⟩ := h
  exact ⟨base, gR, bR, nR, gC, h1, h2.mono hk, Nat.le_trans h3 hk⟩
/-- Where all of av's stays, and nothing else is touched but fresh blocks: moved by a world that keeps everything. -/
def ResK (k : Nat) (w : World) (r gN : Nat) (s : RelS) (av : Nat → Prop) (t p host : Int) (e : Ending) (w' : World) : Prop :=
  ∃ v sz, e = .returned (.tuple #[.int .i64 (ResT s t p host).1, v, .int .i64 (ResT s t p host).2.1]) ∧ ((ResT s t p host).2.1 = 0 → (Kd.int .u8).R 5 w' sz (fun k => sz ≤ k ∧ k < w'.heap.size) v (By.vouchI s.own p (ResT s t p host).1 (resTag s t p host))) ∧ w.heap.size ≤ sz ∧
    RelK (k + 1) w' r gN (ResT s t p host).2.2 (fun k => av k ∨ (sz ≤ k ∧ k < w'.heap.size)) ∧ KpA av w w'
theorem res_k {k : Nat} {w : World} {r gN : Nat} {s : RelS} {av : Nat → Prop} (h : RelK k w r gN s av) (hk : k ≤ 9000) (t p host : Int) :
    Calls Try.prog 12 #[.pointer (some ⟨r, 0, none⟩), .int .i64 t, .int .i64 p, .int .u32 host] w (ResK k w r gN s av t p host) := by
  obtain ⟨base, gR, bR, nR, gC, h1, h2, h3⟩ := h
  unfold ResK ResT
  by_cases hb : resBad s t p host
  · simp only [if_pos hb]
    refine (rres_bad w base r gN gR bR nR gC s av t p host h1 hb).mono ?_
    rintro e w' ⟨rfl, rfl⟩
    exact ⟨_, w.heap.size, rfl, (fun e => by cases e), Nat.le_refl _, ⟨base, gR, bR, nR, gC, h1.sub (fun k hk => hk.elim id (fun e => by omega)), h2.mono (Nat.le_succ _), by omega⟩, KpA.refl _ _⟩
  · simp only [if_neg hb]
    refine (rres_calls w base r gN gR bR nR gC k s av t p host h1 h2 (by omega) h3 hb).mono ?_
    rintro e w' ⟨v, sz, n', a1, a2, a3, a4, a5, a6⟩
    exact ⟨v, sz, a2, a3, a4, ⟨base, gR, bR, n', gC, a5, rinv_res h2 hb, by omega⟩, a6⟩
def ConK (k : Nat) (w : World) (r gN : Nat) (s : RelS) (av : Nat → Prop) (t a b : Int) (e : Ending) (w' : World) : Prop :=
  e = .returned (.tuple #[.int .i64 (ConT s t a b).1, .int .i64 (ConT s t a b).2.1]) ∧ RelK (k + 1) w' r gN (ConT s t a b).2.2 av ∧ KpA av w w'
theorem con_k {k : Nat} {w : World} {r gN : Nat} {s : RelS} {av : Nat → Prop} (h : RelK k w r gN s av) (hk : k ≤ 9000) (t a b : Int) :
    Calls Try.prog 14 #[.pointer (some ⟨r, 0, none⟩), .int .i64 t, .int .i64 a, .int .i64 b] w (ConK k w r gN s av t a b) := by
  obtain ⟨base, gR, bR, nR, gC, h1, h2, h3⟩ := h
  unfold ConK ConT
  by_cases hb : conBad s t a b
  · simp only [if_pos hb]
    refine (rcon_bad w base r gN gR bR nR gC s av t a b h1 hb).mono ?_
    rintro e w' ⟨rfl, rfl⟩
    exact ⟨rfl, ⟨base, gR, bR, nR, gC, h1, h2.mono (Nat.le_succ _), by omega⟩, KpA.refl _ _⟩
  · simp only [if_neg hb]
    refine (rcon_calls w base r gN gR bR nR gC k s av t a b h1 h2 (by omega) hb).mono ?_
    rintro e w' ⟨a1, a2, a3⟩
    exact ⟨a1, ⟨base, gR, bR, nR, gC, a2, rinv_con h2 hb, by omega⟩, a3⟩
def FwdK (k : Nat) (w : World) (r gN : Nat) (s : RelS) (av : Nat → Prop) (t no frm size : Int) (e : Ending) (w' : World) : Prop :=
  e = .returned (.tuple #[.int .i64 (FwdF s t no frm size).1, .int .i64 (FwdF s t no frm size).2.1]) ∧ RelK k w' r gN (FwdF s t no frm size).2.2 av ∧ KpA av w w'
theorem fwd_k {k : Nat} {w : World} {r gN : Nat} {s : RelS} {av : Nat → Prop} (h : RelK k w r gN s av) (hk : k ≤ 9000) (t no frm : Int) (A : Option Addr) (m c : Nat) (h4 : s.now ≤ t) (h5 : t ≤ 1099511627776) (hm : m ≤ 1000000) :
    Calls Try.prog 15 #[.pointer (some ⟨r, 0, none⟩), .int .i64 t, .int .i64 no, .int .i64 frm, .slice A m c] w (FwdK k w r gN s av t no frm m) := by
  obtain ⟨base, gR, bR, nR, gC, h1, h2, h3⟩ := h
  refine (rfwd_calls w base r gN gR bR nR gC k s av t no frm A m c h1 h2 (by omega) h4 h5 hm).mono ?_
  rintro e w' ⟨a1, a2, a3⟩
  exact ⟨a1, ⟨base, gR, bR, nR, gC, a2, rinv_fwd h2 h4 h5 (by omega), h3⟩, a3⟩
def StK (k : Nat) (w : World) (r gN : Nat) (s : RelS) (av : Nat → Prop) (t : Int) (e : Ending) (w' : World) : Prop :=
  ∃ v1 v2 sz, e = .returned (.tuple #[v1, v2]) ∧ w'.ownsRow sz 58 3 v1 (overL s.R t).length (flatH (overL s.R t)) ∧ w'.ownsRow sz 50 6 v2 (liveC s.C t).length (flatC (liveC s.C t)) ∧ w.heap.size ≤ sz ∧
    RelK k w' r gN (StF s t) (fun k => av k ∨ (v1.ownBlock = some k ∨ v2.ownBlock = some k)) ∧ KpA av w w'
theorem st_k {k : Nat} {w : World} {r gN : Nat} {s : RelS} {av : Nat → Prop} (h : RelK k w r gN s av) (hk : k ≤ 9000) (t : Int) (h4 : s.now ≤ t) (h5 : t ≤ 1099511627776) :
    Calls Try.prog 16 #[.pointer (some ⟨r, 0, none⟩), .int .i64 t] w (StK k w r gN s av t) := by
  obtain ⟨base, gR, bR, nR, gC, h1, h2, h3⟩ := h
  refine (rstate_calls w base r gN gR bR nR gC k s av t h1 h2 (by omega) h4 h5).mono ?_
  rintro e w' ⟨v1, v2, sz, a1, a2, a3, a4, a5, a6⟩
  exact ⟨v1, v2, sz, a1, a2, a3, a4, ⟨base, gR, bR, nR, gC, a5, rinv_st h2 h4 h5, h3⟩, a6⟩
theorem new_k {w : World} (own a b c d e f : Int) (gN : Nat) {base : Nat} {av : Nat → Prop} (hN : Nt.OneAt w base gN [] av) (h : mayL (a, b, c, d, e, f) = true) (hp : isPeer own) :
    Calls Try.prog 11 #[.int .i64 own, .agg #[.int .i64 a, .int .i64 b, .int .i64 c, .int .i64 d, .int .i64 e, .int .i64 f], .pointer (some ⟨gN, 0, none⟩)] w fun en w' => ∃ r, en = .returned (.tuple #[.pointer (some ⟨r, 0, none⟩), .int .i64 0]) ∧ RelK 0 w' r gN (newS own (a, b, c, d, e, f) []) av ∧ Below w.heap.size w w' := by
  refine (rnew_calls w base own a b c d e f gN [] av hN h hp).mono ?_
  rintro en w' ⟨r, gR, bR, gC, h1, h2, h3, h4⟩
  exact ⟨r, h1, ⟨base, gR, bR, 0, gC, h2, newS_inv hp h, Nat.le_refl _⟩, h3⟩
/-! ### awake's numbers -/
abbrev limA : LimV := (2, 2, 2, 10, 100, 50)
theorem aw1 : ResT (newS 9 limA []) 1 2 5 = (11, 0, ⟨9, limA, [(2, 5, 11)], 1, [], [], 0, 0, (Nt.mintF [] 9 (By.textL [9, 2, 11])).2.2, 1⟩) := by kernel_rfl
theorem aw2 (N : List Nt.Ent) : ConT ⟨9, limA, [(2, 5, 11)], 1, [], [], 0, 0, N, 1⟩ 2 1 2 = (1, 0, ⟨9, limA, [(2, 5, 11)], 2, [(1, 1, 2, 41, 0, 0)], [], 1, 2, N, 2⟩) := by kernel_rfl
theorem aw3 (N : List Nt.Ent) : ConT ⟨9, limA, [(2, 5, 11)], 2, [(1, 1, 2, 41, 0, 0)], [], 1, 2, N, 2⟩ 2 2 1 = (0, 5, ⟨9, limA, [(2, 5, 11)], 2, [(1, 1, 2, 41, 0, 0)], [], 1, 2, N, 2⟩) := by kernel_rfl
theorem aw4 (N : List Nt.Ent) : FwdF ⟨9, limA, [(2, 5, 11)], 2, [(1, 1, 2, 41, 0, 0)], [], 1, 2, N, 2⟩ 3 1 1 ((2 : Nat) : Int) = (2, 0, ⟨9, limA, [(2, 5, 11)], 2, [(1, 1, 2, 41, 2, 0)], [], 1, 3, N, 3⟩) := by kernel_rfl
theorem aw5 (N : List Nt.Ent) : StF ⟨9, limA, [(2, 5, 11)], 2, [(1, 1, 2, 41, 2, 0)], [], 1, 3, N, 3⟩ 40 = ⟨9, limA, [], 40, [(1, 1, 2, 41, 2, 0)], [], 1, 40, N, 40⟩ := by kernel_rfl
theorem aw5c : liveC [(1, 1, 2, 41, 2, 0)] 40 = [(1, 1, 2, 41, 2, 0)] ∧ liveC [(1, 1, 2, 41, 2, 0)] 41 = [] := ⟨by kernel_rfl, by kernel_rfl⟩
end Go.Proofs.Yteajlffchdbkjaa.Re
namespace Go.Proofs.Yteajlffchdbkjaa.Re
open Go.RowKit Go.Maps Go.Shelf Go.Proofs.Yteajlffchdbkjaa.Rv Go.Proofs.Yteajlffchdbkjaa.Ci Go.Proofs.Yteajlffchdbkjaa.Sp Go.Proofs.YteajlffchdbkjaaW.PrintWords Go.Proofs.YteajlffchdbkjaaW.PrintLast Go.Proofs.YteajlffchdbkjaaW.PrintMore
set_option linter.unusedVariables false
set_option linter.unusedSimpArgs false
attribute [local go_sem] Oper.semAt_some
theorem vouch_pos (r p u tag : Int) : 0 < (By.vouchI r p u tag).length := by
  unfold By.vouchI By.frameI
  rw [List.length_append, List.length_append]
  have h := By.text3_len r p u
  have := By.putI_pos (v := ((By.textL [r, p, u]).length : Int)) (by omega)
  omega
theorem stay_row {w w' : World} {av : Nat → Prop} {base : Nat} {e : TypeId} {size : Nat} {v : Value} {n : Nat} {xs : List Value} (h : w.ownsRow base e size v n xs) (hk : KpA av w w') (ha : ∀ k, v.ownBlock = some k → av k) : w'.ownsRow base e size v n xs := own_stays h (fun k hk' => hk.2.2.2.2 k (ha k hk'))
set_option maxRecDepth 100000 in
set_option maxHeartbeats 4000000 in
theorem awake_calls (W : World) : Calls Try.prog 17 #[] W fun e w' => e = .returned (.bool true) ∧ Below W.heap.size W w' := by
  have K1 := Lib.hid (Nt.one_new W)
  go_enter Try.func17, Try.ntmps17
  go_upto_region 2 with (go_at_call 10; refine K1.out.mono ?_; rintro e w1 ⟨gN, rfl, hN, hb⟩; have HN := Lib.hid hN; have HB1 := Lib.hid hb; clear hN hb)
  have K2 := Lib.hid (new_k 9 2 2 2 10 100 50 gN HN.out (by kernel_rfl) (by decide))
  go_upto_region 5 with (go_at_call 11; refine K2.out.mono ?_; rintro e w2 ⟨r, rfl, hr, hb⟩; have HK2 := Lib.hid hr; have HB2 := Lib.hid hb; clear hr hb)
  have k3 := res_k HK2.out (by omega) 1 2 5
  unfold ResK at k3
  rw [aw1] at k3
  have K3 := Lib.hid k3
  clear k3 K1 K2
  go_upto_region 6 with (go_at_call 12; refine K3.out.mono ?_; rintro e w3 ⟨v, sz, rfl, hR, hsz, hk, hkp⟩; have HR3 := Lib.hid (hR rfl); have HK3 := Lib.hid (hk.sub (fun _ e => .inl e)); have HP3 := Lib.hid hkp; clear hR hsz hk hkp)
  obtain ⟨A3, c3, hv3, _⟩ := Kd.R_reads HR3.out
  obtain ⟨m3, hm3⟩ : ∃ m, (By.vouchI (newS 9 limA []).own 2 11 (resTag (newS 9 limA []) 1 2 5)).length = m := ⟨_, rfl⟩
  have hpos : 0 < m3 := by rw [← hm3]; exact vouch_pos _ _ _ _
  have hv3' : v = .slice A3 m3 c3 := by rw [← hm3]; exact hv3
  subst hv3'
  clear hm3 hv3 K3
  have k4 := con_k HK3.out (by omega) 2 1 2
  unfold ConK at k4
  try dsimp only at k4
  rw [aw2] at k4
  have K4 := Lib.hid k4
  clear k4
  go_upto_region 7 with (go_at_call 14; refine K4.out.mono ?_; rintro e w4 ⟨rfl, hk, hkp⟩; have HK4 := Lib.hid hk; have HP4 := Lib.hid hkp; clear hk hkp)
  have k5 := con_k HK4.out (by omega) 2 2 1
  unfold ConK at k5
  try dsimp only at k5
  rw [aw3] at k5
  have K5 := Lib.hid k5
  clear k5 K4
  go_upto_region 8 with (go_at_call 14; refine K5.out.mono ?_; rintro e w5 ⟨rfl, hk, hkp⟩; have HK5 := Lib.hid hk; have HP5 := Lib.hid hkp; clear hk hkp)
  have K6 := Lib.hid (fun (X : World) (A : Option Addr) (hb : Below w5.heap.size w5 X) => (show Calls Try.prog 15 #[.pointer (some ⟨r, 0, none⟩), .int .i64 3, .int .i64 1, .int .i64 1, .slice A 2 2] X fun e w' => e = .returned (.tuple #[.int .i64 2, .int .i64 0]) ∧ RelK 3 w' r gN ⟨9, limA, [(2, 5, 11)], 2, [(1, 1, 2, 41, 2, 0)], [], 1, 3, (Nt.mintF [] 9 (By.textL [9, 2, 11])).2.2, 3⟩ (fun k => k < W.heap.size) ∧ KpA (fun k => k < W.heap.size) w5 w' from by
    have k6 := fwd_k (HK5.out.step hb) (by omega) 3 1 1 A 2 2 (by dsimp only; omega) (by omega) (by omega)
    unfold FwdK at k6
    try dsimp only at k6
    rw [aw4] at k6
    exact k6.mono (fun e w' ⟨a, b, c⟩ => ⟨a, b.sub (fun _ e => .inl e), (KpA.below hb (fun i hi => HK5.out.lt i hi)).trans c (fun _ e => .inl e)⟩)))
  have qc := Lib.run_convert_bytes_const w5 36 5 #[.int .u8 104, .int .u8 105] 2 2 Try.underlying36 Try.underlying5
  clear K5
  go_upto_region 9 with (go_at_call 15; refine (K6.out _ _ ((Below.refl _ _).alloc (Nat.le_refl _) _)).mono ?_; rintro e w6 ⟨rfl, hk, hkp⟩; have HK6 := Lib.hid hk; have HP6 := Lib.hid hkp; clear hk hkp)
  clear qc
  have k7 := st_k HK6.out (by omega) 40 (by dsimp only; omega) (by omega)
  unfold StK at k7
  try dsimp only at k7
  rw [aw5, aw5c.1] at k7
  have K7 := Lib.hid k7
  clear k7 K6
  go_upto_region 10 with (go_at_call 16; refine K7.out.mono ?_; rintro e w7 ⟨v1, v2, sz, rfl, ho1, ho2, hz, hk, hkp⟩; have HO2 := Lib.hid ho2; have HK7 := Lib.hid hk; have HP7 := Lib.hid hkp; clear ho1 ho2 hz hk hkp)
  obtain ⟨gr, cp, hv2⟩ : ∃ gr cp, v2 = .slice (some ⟨gr, 0, none⟩) 1 cp := by
    obtain ⟨_, ⟨_, h2⟩ | ⟨gr, cp, _, h2, _⟩⟩ := HO2.out
    · cases h2
    · exact ⟨gr, cp, h2⟩
  subst hv2
  have k8 := st_k HK7.out (by omega) 41 (by dsimp only; omega) (by omega)
  unfold StK at k8
  try dsimp only at k8
  rw [aw5c.2] at k8
  have K8 := Lib.hid k8
  clear k8 K7
  go_upto_region 11 with (go_at_call 16; refine K8.out.mono ?_; rintro e w8 ⟨v3, v4, sz8, rfl, ho1, ho2, hz, hk, hkp⟩; have HO4 := Lib.hid ho2; have HP8 := Lib.hid hkp; clear ho1 ho2 hz hk hkp)
  obtain ⟨A4, c4, hv4, _⟩ := row_at (own_lower HO4.out (Nat.zero_le _))
  subst hv4
  have ho8 := stay_row HO2.out HP8.out (fun k hk => .inr (.inr hk))
  have x3 : w8.cell? ⟨gr, 3, none⟩ = some (.int .i64 41) := by
    obtain ⟨A, c, hv, h0 | ⟨gr', h1, _, _, _, h2⟩⟩ := rowC_cells (L := [(1, 1, 2, 41, 2, 0)]) (own_lower ho8 (Nat.zero_le _))
    · cases h0
    · cases hv; cases h1
      exact h2 w8 rfl 0 (by simp) 3 (by omega)
  clear ho8 K8
  go_wp2
  go_ret
  refine ⟨rfl, ?_⟩
  have hb2 := HB1.out.trans (HB2.out.mono HB1.out.size)
  exact hb2.trans ((HP3.out.trans (HP4.out.trans (HP5.out.trans (HP6.out.trans (HP7.out.trans HP8.out (fun _ e => .inl e)) (fun _ e => e)) (fun _ e => e)) (fun _ e => e)) (fun _ e => e)).toBelow (fun i hi => hi) hb2.size)
end Go.Proofs.Yteajlffchdbkjaa.Re
