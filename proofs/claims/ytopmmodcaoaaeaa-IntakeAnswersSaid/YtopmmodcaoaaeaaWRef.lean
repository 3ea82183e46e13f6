/- The reference of the wire's numbers as contracts. No condition. -/
import Derived.Test.YtopmmodcaoaaeaaWInt
namespace Go.Proofs.Ytopmmodcaoaaeaa
open Go.RowKit Sy
open Go.IntWalk renaming iteOmega → iO, toNatUp → tN
set_option linter.unusedVariables false
set_option linter.unusedSimpArgs false
set_option maxRecDepth 100000 in
theorem folded_fn (z : Int) (h1 : -9223372036854775808 ≤ z) (h2 : z ≤ 9223372036854775807) : FnOk Try.prog 72 [.t (.int z)] [] (.t (.lit (.int .u64 (Wire.fold z)))) [] := by
  by_cases hz : 0 ≤ z
  · have e : ((Wire.fold z : Nat) : Int) = z * 2 := by unfold Wire.fold; rw [if_pos hz]; omega
    rw [e]
    refine FnOk.intro fact_mixed Try.func72 rfl Try.ntmps72 (by rfl) (by simp) ?_
    repeat (first | (refine nf1_sound rfl ?_; simp [go_sem, ↓iO, iO, tN]; (repeat (refine anI ?_)); try (refine ⟨dcK, ?_⟩)) | ((first | refine itePos (by omega) ?_ | refine iteNeg (by omega) ?_); try simp [go_sem, ↓iO, iO, tN]) | (refine ⟨dcK, ?_⟩))
    first | rw [RetQ_ret] | rw [RetQ_normal]
    refine ⟨[], ?_⟩
    simp [go_sem, ↓iO, iO, tN]
  · have e : ((Wire.fold z : Nat) : Int) = (-(z + 1)) * 2 + 1 := by unfold Wire.fold; rw [if_neg hz]; omega
    rw [e]
    refine FnOk.intro fact_mixed Try.func72 rfl Try.ntmps72 (by rfl) (by simp) ?_
    repeat (first | (refine nf1_sound rfl ?_; simp [go_sem, ↓iO, iO, tN]; (repeat (refine anI ?_)); try (refine ⟨dcK, ?_⟩)) | ((first | refine itePos (by omega) ?_ | refine iteNeg (by omega) ?_); try simp [go_sem, ↓iO, iO, tN]) | (refine ⟨dcK, ?_⟩))
    first | rw [RetQ_ret] | rw [RetQ_normal]
    refine ⟨[], ?_⟩
    simp [go_sem, ↓iO, iO, tN]
    try omega
set_option maxRecDepth 100000 in
theorem unfolded_fn (u : Nat) (h : u < 18446744073709551616) : FnOk Try.prog 90 [.t (.lit (.int .u64 u))] [] (.t (.int (Wire.unfold_ u))) [] := by
  by_cases hz : u % 2 = 0
  · have e : Wire.unfold_ u = (u : Int) / 2 := by unfold Wire.unfold_; rw [if_pos hz]; omega
    have e2 : (u : Int) % 2 = 0 := by omega
    rw [e]
    refine FnOk.intro fact_mixed Try.func90 rfl Try.ntmps90 (by rfl) (by simp) ?_
    repeat (first | (refine nf1_sound rfl ?_; simp [go_sem, ↓iO, iO, tN]; (repeat (refine anI ?_)); try (refine ⟨dcK, ?_⟩)) | ((first | refine itePos (by omega) ?_ | refine iteNeg (by omega) ?_); try simp [go_sem, ↓iO, iO, tN]) | (refine ⟨dcK, ?_⟩))
    first | rw [RetQ_ret] | rw [RetQ_normal]
    refine ⟨[], ?_⟩
    simp [go_sem, ↓iO, iO, tN]
  · have e : Wire.unfold_ u = -((u : Int) / 2) - 1 := by unfold Wire.unfold_; rw [if_neg hz]; omega
    have e2 : ¬ (u : Int) % 2 = 0 := by omega
    rw [e]
    refine FnOk.intro fact_mixed Try.func90 rfl Try.ntmps90 (by rfl) (by simp) ?_
    repeat (first | (refine nf1_sound rfl ?_; simp [go_sem, ↓iO, iO, tN]; (repeat (refine anI ?_)); try (refine ⟨dcK, ?_⟩)) | ((first | refine itePos (by omega) ?_ | refine iteNeg (by omega) ?_); try simp [go_sem, ↓iO, iO, tN]) | (refine ⟨dcK, ?_⟩))
    first | rw [RetQ_ret] | rw [RetQ_normal]
    refine ⟨[], ?_⟩
    simp [go_sem, ↓iO, iO, tN]
    try omega
theorem quo_u64 {u : Nat} (h : u < 18446744073709551616) : ∀ K : Value → Prop, binV .quo (.int .u64 (u : Int)) (.int .u64 128) K = K (.int .u64 ((u : Int) / 128)) := by
  intro K
  unfold binV
  dsimp only
  rw [if_pos (show 0 ≤ (u : Int) ∧ (1 : Int) ≤ 128 by omega), if_pos (show inR .u64 (u : Int) by simp only [inR]; omega)]
  simp
theorem add_u64 (u : Nat) : ∀ K : Value → Prop, binV .add (.int .u64 ((u : Int) % 128)) (.int .u64 128) K = K (.int .u64 ((u : Int) % 128 + 128)) := by
  intro K
  unfold binV
  dsimp only
  unfold arK
  dsimp only
  rw [if_pos (show inR .u64 ((u : Int) % 128 + 128) by simp only [inR]; omega)]
  simp
set_option maxRecDepth 100000 in
set_option maxHeartbeats 8000000 in
theorem rput_fn (bs : List Nat) (z : Int) (hb : bs.length ≤ 1099511627776) (h1 : -9223372036854775808 ≤ z) (h2 : z ≤ 9223372036854775807) :
    FnOk Try.prog 47 [.t (encUs bs), .t (.int z)] [] (.own 1000) [(1000, blkU (bs ++ putZ z))] := by
  have hlt := Wire.fold_lt h1 h2
  have hp10 := Wire.put_len10 hlt
  have hc := folded_fn z h1 h2
  unfold putZ
  obtain ⟨F, hF⟩ : ∃ F, Wire.fold z = F := ⟨_, rfl⟩
  rw [hF] at hlt hp10 hc ⊢
  refine FnOk.intro fact_mixed Try.func47 rfl Try.ntmps47 (by rfl) (by simp) ?_
  repeat (first | (refine nf1_sound rfl ?_; simp [go_sem, ↓iO, iO, tN]; (repeat (refine anI ?_)); try (refine ⟨dcK, ?_⟩)) | ((first | refine itePos (by omega) ?_ | refine iteNeg (by omega) ?_); try simp [go_sem, ↓iO, iO, tN]) | (refine ⟨dcK, ?_⟩))
  refine CallK.fn (hc) [] [] [] (by kernel_rfl) ?_ ?_ ?_ (Or.inl rfl) ?_ <;> simp [go_sem, ↓iO, iO, tN]
  repeat (refine anI ?_)
  try (refine ⟨dcK, ?_⟩)
  repeat (first | (refine nf1_sound rfl ?_; simp [go_sem, ↓iO, iO, tN]; (repeat (refine anI ?_)); try (refine ⟨dcK, ?_⟩)) | ((first | refine itePos (by omega) ?_ | refine iteNeg (by omega) ?_); try simp [go_sem, ↓iO, iO, tN]) | (refine ⟨dcK, ?_⟩))
  refine nf1_sound' _ _ _ ?_; simp only [nf1]
  refine CW.loop (ι := Nat × List Nat) (fun p => ⟨[(6, .t (.lit (.int .u64 p.1))), (5, .own 500)], [(500, blkU (bs ++ p.2))]⟩) (fun p => p.2 ++ Wire.put p.1 = Wire.put F ∧ p.1 < 18446744073709551616) (fun p => p.1) (F, []) [(500, some 109)] ⟨by simp, hlt⟩ ?_ ?_
  · simp [go_sem, ↓iO, iO, tN]
  rintro ⟨u, q⟩ ⟨hq, hu⟩
  dsimp only at hq hu ⊢
  have hqs : q.length ≤ 10 := by
    have := congrArg List.length hq
    rw [List.length_append] at this
    have := Wire.put_pos u
    omega
  by_cases hb2 : 128 ≤ u
  · rw [Wire.put_big hb2] at hq
    have hqq := quo_u64 hu
    have haa := add_u64 u
    repeat (first | (refine nf1_sound rfl ?_; simp [go_sem, ↓iO, iO, tN, ↓hqq, ↓haa]; (repeat (refine anI ?_)); try (refine ⟨dcK, ?_⟩)) | ((first | refine itePos (by omega) ?_ | refine iteNeg (by omega) ?_); try simp [go_sem, ↓iO, iO, tN, ↓hqq, ↓haa]) | (refine ⟨dcK, ?_⟩))
    rw [RoundQ_normal]; refine ⟨(u / 128, q ++ [u % 128 + 128]), [(500, some 120)], ?_, ?_, ?_⟩
    · exact ⟨by simpa using hq, by dsimp only; omega⟩
    · dsimp only
      omega
    simp [go_sem, ↓iO, iO, tN]
  · rw [Wire.put_small (by omega)] at hq
    repeat (first | (refine nf1_sound rfl ?_; simp [go_sem, ↓iO, iO, tN]; (repeat (refine anI ?_)); try (refine ⟨dcK, ?_⟩)) | ((first | refine itePos (by omega) ?_ | refine iteNeg (by omega) ?_); try simp [go_sem, ↓iO, iO, tN]) | (refine ⟨dcK, ?_⟩))
    first | rw [RetQ_ret] | rw [RetQ_normal]
    refine ⟨[(1000, some 127)], ?_⟩
    simp [go_sem, ↓iO, iO, tN]
    rw [← hq]
    simp [go_sem, ↓iO, iO, tN]
theorem scan_nine' {c u : Nat} {r : List Nat} (h : 1 < c) : Wire.scan (c :: r) 9 u = (0, 0, 3) := by
  by_cases hc : 128 ≤ c
  · rw [Wire.scan_more (by omega) hc, Wire.scan_ten (by omega)]
  · rw [Wire.scan_bad (by omega) (by omega) (.inl ⟨rfl, h⟩)]
theorem pow63 : (2 : Nat) ^ 63 = 9223372036854775808 := rfl
theorem add_fit {k u c : Nat} (hk : k < 10) (hu : u < 2 ^ (7 * k)) (hc : c < 256) (h9 : k = 9 → c ≤ 1) :
    (u : Int) + ((c % 128 : Nat) : Int) * 2 ^ (7 * k) % 18446744073709551616 = (((u + c % 128 * 2 ^ (7 * k)) % 18446744073709551616 : Nat) : Int) ∧ (u + c % 128 * 2 ^ (7 * k)) % 18446744073709551616 < 18446744073709551616 := by
  have hp : (2 : Int) ^ (7 * k) = ((2 ^ (7 * k) : Nat) : Int) := by simp
  rw [hp, ← Int.natCast_mul]
  have hlt : u + c % 128 * 2 ^ (7 * k) < 18446744073709551616 := by
    by_cases h : k = 9
    · have h1 := h9 h
      have e : (2 : Nat) ^ (7 * k) = 9223372036854775808 := by rw [h]
      obtain ⟨p, hp⟩ : ∃ p, (2 : Nat) ^ (7 * k) = p := ⟨_, rfl⟩
      rw [hp] at hu e ⊢
      have h2 := Nat.mul_le_mul_right p (show c % 128 ≤ 1 by omega)
      omega
    · have h1 : 2 ^ (7 * (k + 1)) ≤ 2 ^ 63 := Nat.pow_le_pow_right (by omega) (by omega)
      have h2 : 2 ^ (7 * (k + 1)) = 128 * 2 ^ (7 * k) := by rw [show 7 * (k + 1) = 7 + 7 * k by omega, Nat.pow_add]
      rw [h2, pow63] at h1
      obtain ⟨p, hp⟩ : ∃ p, (2 : Nat) ^ (7 * k) = p := ⟨_, rfl⟩
      rw [hp] at hu h1 ⊢
      have h3 := Nat.mul_le_mul_right p (show c % 128 ≤ 127 by omega)
      omega
  obtain ⟨q, hq⟩ : ∃ q, c % 128 * 2 ^ (7 * k) = q := ⟨_, rfl⟩
  rw [hq] at hlt ⊢
  omega
set_option maxRecDepth 100000 in
set_option maxHeartbeats 8000000 in
theorem rint_at (bs : List Nat) (a : Nat) (hb : bs.length ≤ 1099511627776) (h8 : ∀ c ∈ bs, c < 256) (ha : a ≤ bs.length) (x y e : Int) (hr : Wire.getI bs a = (x, y, e)) :
    FnOk Try.prog 71 [.t (encUs bs), .t (.int a)] [] (.tup [.t (.int x), .t (.int y), .t (.int e)]) [] := by
  rw [getI_at ha] at hr
  obtain ⟨⟨s1, s2, s3⟩, hs⟩ : ∃ s, Wire.scan (bs.drop a) 0 0 = s := ⟨_, rfl⟩
  rw [hs] at hr
  dsimp only at hr
  refine FnOk.intro fact_mixed Try.func71 rfl Try.ntmps71 (by rfl) (by simp) ?_
  repeat (first | (refine nf1_sound rfl ?_; simp [go_sem, ↓iO, iO, tN]; (repeat (refine anI ?_)); try (refine ⟨dcK, ?_⟩)) | ((first | refine itePos (by omega) ?_ | refine iteNeg (by omega) ?_); try simp [go_sem, ↓iO, iO, tN]) | (refine ⟨dcK, ?_⟩))
  refine nf1_sound' _ _ _ ?_; simp only [nf1]
  refine CW.loop (ι := Nat × Nat) (fun p => ⟨[(0, .t (encUs bs)), (1, .t (.int a)), (8, .t (.int p.1)), (7, .t (.lit (.int .u64 p.2)))], []⟩) (fun p => p.1 ≤ 10 ∧ p.2 < 18446744073709551616 ∧ (p.1 < 10 → p.2 < 2 ^ (7 * p.1)) ∧ Wire.scan (bs.drop (a + p.1)) p.1 p.2 = (s1, s2, s3)) (fun p => 10 - p.1) (0, 0) [] ⟨by simp, by simp, by simp, by simpa using hs⟩ ?_ ?_
  · simp [go_sem, ↓iO, iO, tN]
  rintro ⟨k, u⟩ ⟨hk, hu, hu7, hsc⟩
  dsimp only at hk hu hu7 hsc ⊢
  by_cases hk10 : k < 10
  · by_cases hlen : a + k < bs.length
    · obtain ⟨c, hc⟩ := has_get hlen
      have hc8 := h8 c (mem_get hc)
      have hsh := shl_binV hc8 hk10
      rw [drop_get hc] at hsc
      by_cases h91 : k = 9 ∧ 1 < c
      · obtain ⟨hk9, h1c⟩ := h91
        have hsc2 : (0, 0, 3) = (s1, s2, s3) := by rw [← hsc, hk9, scan_nine' h1c]
        obtain ⟨rfl, rfl, rfl⟩ : 0 = s1 ∧ 0 = s2 ∧ 3 = s3 := by simpa using hsc2
        rw [if_neg (by decide)] at hr
        obtain ⟨rfl, rfl, rfl⟩ : 0 = x ∧ 0 = y ∧ 3 = e := by simpa using hr
        repeat (first | (refine nf1_sound rfl ?_; simp [go_sem, ↓iO, iO, tN, hc]; (repeat (refine anI ?_)); try (refine ⟨dcK, ?_⟩)) | ((first | refine itePos (by omega) ?_ | refine iteNeg (by omega) ?_); try simp [go_sem, ↓iO, iO, tN, hc]) | (refine ⟨dcK, ?_⟩))
        first | rw [RetQ_ret] | rw [RetQ_normal]
        refine ⟨[], ?_⟩
        simp [go_sem, ↓iO, iO, tN]
      · have hadd := add_fit hk10 (hu7 hk10) hc8 (fun h => by omega)
        obtain ⟨E, hE⟩ : ∃ E, ((c % 128 : Nat) : Int) * 2 ^ (7 * k) % 18446744073709551616 = E := ⟨_, rfl⟩
        have hst : k < 9 → (u + c % 128 * 2 ^ (7 * k)) % 18446744073709551616 < 2 ^ (7 * (k + 1)) := fun h => Wire.step_lt h (hu7 hk10)
        have hE0 : 0 ≤ E := by rw [← hE]; omega
        simp only [hE] at hsh hadd
        by_cases hbig : 128 ≤ c
        · rw [Wire.scan_more hk10 hbig] at hsc
          obtain ⟨U, hU⟩ : ∃ U, (u + c % 128 * 2 ^ (7 * k)) % 18446744073709551616 = U := ⟨_, rfl⟩
          rw [hU] at hsc hst hadd
          obtain ⟨hadd, hlt⟩ := hadd
          have hk9 : k < 9 := by omega
          repeat (first | (refine nf1_sound rfl ?_; simp [go_sem, ↓iO, iO, tN, hc, ↓hsh]; (repeat (refine anI ?_)); try (refine ⟨dcK, ?_⟩)) | ((first | refine itePos (by omega) ?_ | refine iteNeg (by omega) ?_); try simp [go_sem, ↓iO, iO, tN, hc, ↓hsh]) | (refine ⟨dcK, ?_⟩))
          rw [RoundQ_normal]; refine ⟨(k + 1, U), [], ?_, ?_, ?_⟩
          · exact ⟨by dsimp only; omega, hlt, fun h => hst (by dsimp only at h; omega), by rw [← Nat.add_assoc]; exact hsc⟩
          · dsimp only
            omega
          simp [go_sem, ↓iO, iO, tN, hadd]
        · by_cases hbad : 0 < k ∧ c = 0
          · rw [Wire.scan_bad hk10 (by omega) (.inr hbad)] at hsc
            obtain ⟨rfl, rfl, rfl⟩ : 0 = s1 ∧ 0 = s2 ∧ 3 = s3 := by simpa using hsc
            rw [if_neg (by decide)] at hr
            obtain ⟨rfl, rfl, rfl⟩ : 0 = x ∧ 0 = y ∧ 3 = e := by simpa using hr
            obtain ⟨U, hU⟩ : ∃ U, (u + c % 128 * 2 ^ (7 * k)) % 18446744073709551616 = U := ⟨_, rfl⟩
            rw [hU] at hadd
            obtain ⟨hadd, hlt⟩ := hadd
            obtain ⟨h0k, hc0⟩ := hbad
            by_cases hk9 : k = 9
            · repeat (first | (refine nf1_sound rfl ?_; simp [go_sem, ↓iO, iO, tN, hc, ↓hsh]; (repeat (refine anI ?_)); try (refine ⟨dcK, ?_⟩)) | ((first | refine itePos (by omega) ?_ | refine iteNeg (by omega) ?_); try simp [go_sem, ↓iO, iO, tN, hc, ↓hsh]) | (refine ⟨dcK, ?_⟩))
              first | rw [RetQ_ret] | rw [RetQ_normal]
              refine ⟨[], ?_⟩
              simp [go_sem, ↓iO, iO, tN]
            · repeat (first | (refine nf1_sound rfl ?_; simp [go_sem, ↓iO, iO, tN, hc, ↓hsh]; (repeat (refine anI ?_)); try (refine ⟨dcK, ?_⟩)) | ((first | refine itePos (by omega) ?_ | refine iteNeg (by omega) ?_); try simp [go_sem, ↓iO, iO, tN, hc, ↓hsh]) | (refine ⟨dcK, ?_⟩))
              first | rw [RetQ_ret] | rw [RetQ_normal]
              refine ⟨[], ?_⟩
              simp [go_sem, ↓iO, iO, tN]
          · rw [Wire.scan_good hk10 (by omega) (by omega)] at hsc
            obtain ⟨U, hU⟩ : ∃ U, (u + c % 128 * 2 ^ (7 * k)) % 18446744073709551616 = U := ⟨_, rfl⟩
            rw [hU] at hadd hsc
            obtain ⟨hadd, hlt⟩ := hadd
            obtain ⟨rfl, rfl, rfl⟩ : Wire.unfold_ U = s1 ∧ k + 1 = s2 ∧ 0 = s3 := by simpa using hsc
            rw [if_pos rfl] at hr
            obtain ⟨rfl, rfl, rfl⟩ : Wire.unfold_ U = x ∧ (a : Int) + (k + 1 : Nat) = y ∧ 0 = e := by simpa using hr
            have cu := unfolded_fn U hlt
            by_cases hc0 : c = 0
            · have hk0 : k = 0 := by omega
              repeat (first | (refine nf1_sound rfl ?_; simp [go_sem, ↓iO, iO, tN, hc, ↓hsh, hadd]; (repeat (refine anI ?_)); try (refine ⟨dcK, ?_⟩)) | ((first | refine itePos (by omega) ?_ | refine iteNeg (by omega) ?_); try simp [go_sem, ↓iO, iO, tN, hc, ↓hsh, hadd]) | (refine ⟨dcK, ?_⟩))
              refine CallK.fn (cu) [] [] [] (by kernel_rfl) ?_ ?_ ?_ (Or.inl rfl) ?_ <;> simp [go_sem, ↓iO, iO, tN]
              repeat (refine anI ?_)
              try (refine ⟨dcK, ?_⟩)
              repeat (first | (refine nf1_sound rfl ?_; simp [go_sem, ↓iO, iO, tN]; (repeat (refine anI ?_)); try (refine ⟨dcK, ?_⟩)) | ((first | refine itePos (by omega) ?_ | refine iteNeg (by omega) ?_); try simp [go_sem, ↓iO, iO, tN]) | (refine ⟨dcK, ?_⟩))
              first | rw [RetQ_ret] | rw [RetQ_normal]
              refine ⟨[], ?_⟩
              simp [go_sem, ↓iO, iO, tN]
              omega
            · by_cases hk9 : k = 9
              · repeat (first | (refine nf1_sound rfl ?_; simp [go_sem, ↓iO, iO, tN, hc, ↓hsh, hadd]; (repeat (refine anI ?_)); try (refine ⟨dcK, ?_⟩)) | ((first | refine itePos (by omega) ?_ | refine iteNeg (by omega) ?_); try simp [go_sem, ↓iO, iO, tN, hc, ↓hsh, hadd]) | (refine ⟨dcK, ?_⟩))
                refine CallK.fn (cu) [] [] [] (by kernel_rfl) ?_ ?_ ?_ (Or.inl rfl) ?_ <;> simp [go_sem, ↓iO, iO, tN]
                repeat (refine anI ?_)
                try (refine ⟨dcK, ?_⟩)
                repeat (first | (refine nf1_sound rfl ?_; simp [go_sem, ↓iO, iO, tN]; (repeat (refine anI ?_)); try (refine ⟨dcK, ?_⟩)) | ((first | refine itePos (by omega) ?_ | refine iteNeg (by omega) ?_); try simp [go_sem, ↓iO, iO, tN]) | (refine ⟨dcK, ?_⟩))
                first | rw [RetQ_ret] | rw [RetQ_normal]
                refine ⟨[], ?_⟩
                simp [go_sem, ↓iO, iO, tN]
                omega
              · by_cases hk0 : k = 0
                · repeat (first | (refine nf1_sound rfl ?_; simp [go_sem, ↓iO, iO, tN, hc, ↓hsh, hadd]; (repeat (refine anI ?_)); try (refine ⟨dcK, ?_⟩)) | ((first | refine itePos (by omega) ?_ | refine iteNeg (by omega) ?_); try simp [go_sem, ↓iO, iO, tN, hc, ↓hsh, hadd]) | (refine ⟨dcK, ?_⟩))
                  refine CallK.fn (cu) [] [] [] (by kernel_rfl) ?_ ?_ ?_ (Or.inl rfl) ?_ <;> simp [go_sem, ↓iO, iO, tN]
                  repeat (refine anI ?_)
                  try (refine ⟨dcK, ?_⟩)
                  repeat (first | (refine nf1_sound rfl ?_; simp [go_sem, ↓iO, iO, tN]; (repeat (refine anI ?_)); try (refine ⟨dcK, ?_⟩)) | ((first | refine itePos (by omega) ?_ | refine iteNeg (by omega) ?_); try simp [go_sem, ↓iO, iO, tN]) | (refine ⟨dcK, ?_⟩))
                  first | rw [RetQ_ret] | rw [RetQ_normal]
                  refine ⟨[], ?_⟩
                  simp [go_sem, ↓iO, iO, tN]
                  omega
                · repeat (first | (refine nf1_sound rfl ?_; simp [go_sem, ↓iO, iO, tN, hc, ↓hsh, hadd]; (repeat (refine anI ?_)); try (refine ⟨dcK, ?_⟩)) | ((first | refine itePos (by omega) ?_ | refine iteNeg (by omega) ?_); try simp [go_sem, ↓iO, iO, tN, hc, ↓hsh, hadd]) | (refine ⟨dcK, ?_⟩))
                  refine CallK.fn (cu) [] [] [] (by kernel_rfl) ?_ ?_ ?_ (Or.inl rfl) ?_ <;> simp [go_sem, ↓iO, iO, tN]
                  repeat (refine anI ?_)
                  try (refine ⟨dcK, ?_⟩)
                  repeat (first | (refine nf1_sound rfl ?_; simp [go_sem, ↓iO, iO, tN]; (repeat (refine anI ?_)); try (refine ⟨dcK, ?_⟩)) | ((first | refine itePos (by omega) ?_ | refine iteNeg (by omega) ?_); try simp [go_sem, ↓iO, iO, tN]) | (refine ⟨dcK, ?_⟩))
                  first | rw [RetQ_ret] | rw [RetQ_normal]
                  refine ⟨[], ?_⟩
                  simp [go_sem, ↓iO, iO, tN]
                  omega
    · rw [List.drop_eq_nil_of_le (by omega)] at hsc
      unfold Wire.scan at hsc
      rw [if_pos hk10] at hsc
      obtain ⟨rfl, rfl, rfl⟩ : 0 = s1 ∧ 0 = s2 ∧ 2 = s3 := by simpa using hsc
      rw [if_neg (by decide)] at hr
      obtain ⟨rfl, rfl, rfl⟩ : 0 = x ∧ 0 = y ∧ 2 = e := by simpa using hr
      repeat (first | (refine nf1_sound rfl ?_; simp [go_sem, ↓iO, iO, tN]; (repeat (refine anI ?_)); try (refine ⟨dcK, ?_⟩)) | ((first | refine itePos (by omega) ?_ | refine iteNeg (by omega) ?_); try simp [go_sem, ↓iO, iO, tN]) | (refine ⟨dcK, ?_⟩))
      first | rw [RetQ_ret] | rw [RetQ_normal]
      refine ⟨[], ?_⟩
      simp [go_sem, ↓iO, iO, tN]
  · rw [Wire.scan_ten hk10] at hsc
    obtain ⟨rfl, rfl, rfl⟩ : 0 = s1 ∧ 0 = s2 ∧ 3 = s3 := by simpa using hsc
    rw [if_neg (by decide)] at hr
    obtain ⟨rfl, rfl, rfl⟩ : 0 = x ∧ 0 = y ∧ 3 = e := by simpa using hr
    repeat (first | (refine nf1_sound rfl ?_; simp [go_sem, ↓iO, iO, tN]; (repeat (refine anI ?_)); try (refine ⟨dcK, ?_⟩)) | ((first | refine itePos (by omega) ?_ | refine iteNeg (by omega) ?_); try simp [go_sem, ↓iO, iO, tN]) | (refine ⟨dcK, ?_⟩))
    first | rw [RetQ_ret] | rw [RetQ_normal]
    refine ⟨[], ?_⟩
    simp [go_sem, ↓iO, iO, tN]
set_option maxRecDepth 100000 in
theorem rint_fn (bs : List Nat) (a : Int) (hb : bs.length ≤ 1099511627776) (h8 : ∀ c ∈ bs, c < 256) (x y e : Int) (hr : Wire.getI bs a = (x, y, e)) :
    FnOk Try.prog 71 [.t (encUs bs), .t (.int a)] [] (.tup [.t (.int x), .t (.int y), .t (.int e)]) [] := by
  by_cases h0 : a < 0
  · rw [getI_no (.inl h0)] at hr
    obtain ⟨rfl, rfl, rfl⟩ : 0 = x ∧ 0 = y ∧ 1 = e := by simpa using hr
    refine FnOk.intro fact_mixed Try.func71 rfl Try.ntmps71 (by rfl) (by simp) ?_
    repeat (first | (refine nf1_sound rfl ?_; simp [go_sem, ↓iO, iO, tN]; (repeat (refine anI ?_)); try (refine ⟨dcK, ?_⟩)) | ((first | refine itePos (by omega) ?_ | refine iteNeg (by omega) ?_); try simp [go_sem, ↓iO, iO, tN]) | (refine ⟨dcK, ?_⟩))
    first | rw [RetQ_ret] | rw [RetQ_normal]
    refine ⟨[], ?_⟩
    simp [go_sem, ↓iO, iO, tN]
  · by_cases h1 : (bs.length : Int) < a
    · rw [getI_no (.inr h1)] at hr
      obtain ⟨rfl, rfl, rfl⟩ : 0 = x ∧ 0 = y ∧ 1 = e := by simpa using hr
      refine FnOk.intro fact_mixed Try.func71 rfl Try.ntmps71 (by rfl) (by simp) ?_
      repeat (first | (refine nf1_sound rfl ?_; simp [go_sem, ↓iO, iO, tN]; (repeat (refine anI ?_)); try (refine ⟨dcK, ?_⟩)) | ((first | refine itePos (by omega) ?_ | refine iteNeg (by omega) ?_); try simp [go_sem, ↓iO, iO, tN]) | (refine ⟨dcK, ?_⟩))
      first | rw [RetQ_ret] | rw [RetQ_normal]
      refine ⟨[], ?_⟩
      simp [go_sem, ↓iO, iO, tN]
    · obtain ⟨n, rfl⟩ : ∃ n : Nat, a = (n : Int) := ⟨a.toNat, by omega⟩
      exact rint_at bs n hb h8 (by omega) x y e hr
end Go.Proofs.Ytopmmodcaoaaeaa
