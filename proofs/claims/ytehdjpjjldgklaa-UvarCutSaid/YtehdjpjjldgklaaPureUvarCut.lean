/-
  A number cut off is too short, and with a needless byte behind it is none: the printed pure statement of UvarCut. No condition.
-/
import Derived.Test.YtehdjpjjldgklaaPureUv
import Derived.Test.YtehdjpjjldgklaaHx4
import Derived.OpenShut
namespace Go.Proofs.Ytehdjpjjldgklaa.Pure
open Go.RowKit Go.Proofs.Ytehdjpjjldgklaa.H Go.Proofs.Ytehdjpjjldgklaa.Uv Go.Proofs.YtehdjpjjldgklaaW.PrintWords Go.Proofs.YtehdjpjjldgklaaW.PrintLast Go.Proofs.YtehdjpjjldgklaaW.PrintMore

theorem awake_yes : Ev (fun k => embrasurelaw01_awake.f k) true := by
  unfold embrasurelaw01_awake.f
  refine Ev.bind (put_yes 300 (by omega) (by omega)) (Ev.bind (get_yes [128] (by decide)) (Ev.bind (get_yes [128, 0] (by decide)) ?_))
  rw [show putI 300 = [172, 2] by decide, show getI [128] = (0, 0, 2) by decide, show getI [128, 0] = (0, 0, 3) by decide]
  refine Ev_if (by decide) (Ev_if (by decide) (Ev_if (by decide) (Ev_if (by decide) (Ev_if (by decide) (Ev_if (by decide) (Ev_if (by decide) (Ev.bind (len_yes 300 (by omega) (by omega)) ?_)))))))
  rw [show lenI 300 = 2 by decide]
  exact Ev.now _

theorem enc_at (n : Nat) : ∀ (v : Int), 0 ≤ v → v < pw (n + 1) → (n = 0 ∨ pw n ≤ v) → ∀ i (h : i < (enc n v).length), (i < n → 128 ≤ (enc n v)[i]) ∧ (i = n → (enc n v)[i] ≤ 127) := by
  induction n with
  | zero =>
    intro v h0 h1 _ i h
    have : pw (0 + 1) = 128 := rfl
    obtain rfl : i = 0 := by simp [enc] at h; omega
    exact ⟨fun h => by omega, fun _ => by simp [enc]; omega⟩
  | succ n ih =>
    intro v h0 h1 h2 i h
    have e : pw (n + 1) = 128 * pw n := rfl
    have e2 : pw (n + 1 + 1) = 128 * pw (n + 1) := rfl
    have hp := pw_pos n
    have hv : ¬ v < 128 := by omega
    have he : enc (n + 1) v = (128 + v % 128) :: enc n (v / 128) := by rw [enc, if_neg hv]
    simp only [he] at h ⊢
    cases i with
    | zero => exact ⟨fun _ => by simp; omega, fun h => by omega⟩
    | succ i =>
      have := ih (v / 128) (by omega) (by omega) (by omega) i (by simpa using h)
      exact ⟨fun hi => by rw [List.getElem_cons_succ]; exact this.1 (by omega), fun hi => by rw [List.getElem_cons_succ]; exact this.2 (by omega)⟩

theorem UvarCut : embrasurelaw01_UvarCut.Pure := by
  intro v t hv ht
  have hvb := bounds_u64 hv
  have htb := bounds_u8 ht
  refine Ev.rounds ?_
  unfold embrasurelaw01_UvarCut.f
  refine Ev.bind awake_yes (Ev_if rfl ?_)
  by_cases hbig : v > 9223372036854775807
  · exact Ev_if hbig (Ev.now _)
  refine Ev_else hbig ?_
  refine Ev.bind (put_yes v hvb.1 hvb.2) ?_
  obtain ⟨n, hlen, hn, hlt, hge⟩ := lenI_bd v hvb.1 (by omega)
  have hpe : putI v = enc n v := putI_enc v n hvb.1 hn hlt
  have hat := enc_at n v hvb.1 hlt hge
  have hL : (putI v).length = n + 1 := by rw [hpe]; exact enc_length n v hvb.1 hlt hge
  have hbytes := putI_bytes v hvb.1
  have hsame := same_yes (putI v) (putI v) (by omega)
  have hput := rput_yes v hvb.1
  have hget := get_yes (putI v) hbytes
  rw [show getI (putI v) = (v, ((putI v).length : Int), 0) by simpa using getI_put v [] hvb.1 (by omega)] at hget
  have hcut := get_yes ((putI v).take (Int.tmod (wrap64 t) ((putI v).length : Int)).toNat) (fun x hx => hbytes x (List.mem_of_mem_take hx))
  rw [wr t (by omega) (by omega)] at hcut ⊢
  have htm : Int.tmod t ((putI v).length : Int) = t % ((putI v).length : Int) := Int.tmod_eq_emod_of_nonneg htb.1
  have htm0 : 0 ≤ t % ((putI v).length : Int) := Int.emod_nonneg _ (by omega)
  have htm1 : t % ((putI v).length : Int) < ((putI v).length : Int) := Int.emod_lt_of_pos _ (by omega)
  rw [htm] at hcut ⊢
  rw [getI_cut v _ hvb.1 (by omega)] at hcut
  -- the long one
  have hlast : (putI v)[n]'(by omega) ≤ 127 := by simp only [hpe]; exact (hat n (by rw [← hpe, hL]; omega)).2 rfl
  have hlast0 := (hbytes ((putI v)[n]'(by omega)) (List.getElem_mem _)).1
  obtain ⟨z, hz⟩ : ∃ z, z = (putI v)[n]'(by omega) + 128 := ⟨_, rfl⟩
  have hlongb : ∀ x ∈ (putI v).set n z ++ [0], 0 ≤ x ∧ x ≤ 255 := by
    intro x hx
    rcases List.mem_append.1 hx with hx | hx
    · rcases List.mem_or_eq_of_mem_set hx with hx | rfl
      · exact hbytes x hx
      · omega
    · simp at hx; omega
  have hlongl : ((putI v).set n z ++ [0]).length = n + 2 := by simp [hL]
  have hlead : ∀ i (h : i < ((putI v).set n z ++ [0]).length), i < n + 1 → 127 < ((putI v).set n z ++ [0])[i] := by
    intro i h hi
    rw [List.getElem_append_left (by simp [hL]; omega), List.getElem_set]
    split
    · omega
    · have := (hat i (by rw [← hpe, hL]; omega)).1 (by omega)
      simp only [hpe]
      omega
  have hlong := get_yes ((putI v).set n z ++ [0]) hlongb
  have hres : ∃ c, getI ((putI v).set n z ++ [0]) = (0, 0, c) ∧ ((n < 8 ∧ c = 3) ∨ (n = 8 ∧ c = 4)) := by
    by_cases h8 : n = 8
    · exact ⟨4, D_limit true 9 _ (fun i h hi => hlead i h (by omega)) (by omega), .inr ⟨h8, rfl⟩⟩
    · refine ⟨3, ?_, .inl ⟨by omega, rfl⟩⟩
      have hz0 : ((putI v).set n z ++ [0])[n + 1]'(by omega) = 0 := by
        rw [List.getElem_append_right (by simp [hL])]; simp
      have := D_lead (n + 1) true 9 ((putI v).set n z ++ [0]) (by omega) (by omega) hlongb hlead (by rw [hz0]; omega)
      rw [hz0, if_pos ⟨rfl, .inl (by omega)⟩] at this
      exact this
  obtain ⟨c, hc, hcc⟩ := hres
  rw [hc] at hlong
  have hset : (putI v).set (wrap64 (((putI v).length : Int) - 1)).toNat (Go.bits .or .u8 (rd (putI v) (wrap64 (((putI v).length : Int) - 1))) 128) = (putI v).set n z := by
    rw [wr _ (by omega) (by omega), show (((putI v).length : Int) - 1) = (n : Int) by omega, rd_get (putI v) n (by omega), Int.toNat_natCast, Go.u8_or128_right _ hlast0 (by omega), ← hz]
  refine Ev_else (by omega) (Ev_if htm0 (Ev_if (by omega) (Ev.bind hcut ?_)))
  simp only [Option.bind_some, List.nil_append, List.length_nil, Nat.zero_add]
  rw [hset]
  refine Ev_if (by omega) (Ev_if (by rw [wr _ (by omega) (by omega)]; omega) (Ev_if (by rw [wr _ (by omega) (by omega)]; omega) (Ev_if (by simp [hL]; omega) (Ev.bind hlong (Ev.bind hget (Ev_if trivial ?_))))))
  have tail : Ev (fun k => (embrasureref01_Put.f k v).bind fun t169 => ((embrasureref01_Same.f k (putI v) t169).bind fun t172 => (some t172))) true := by
    refine Ev.bind hput (Ev.bind hsame ?_)
    simpa using Ev.now true
  rcases hcc with ⟨h8, rfl⟩ | ⟨h8, rfl⟩
  · simp only [if_true]
    exact tail
  · refine Ev_else (by decide) (Ev_if (by omega) ?_)
    simp only [if_true]
    exact tail

end Go.Proofs.Ytehdjpjjldgklaa.Pure
