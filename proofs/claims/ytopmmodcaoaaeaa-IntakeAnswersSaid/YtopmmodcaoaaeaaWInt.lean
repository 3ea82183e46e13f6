/- Int as a contract. No condition. -/
import Derived.Test.YtopmmodcaoaaeaaWPut
namespace Go.Proofs.Ytopmmodcaoaaeaa
open Go.RowKit Sy
open Go.IntWalk renaming iteOmega → iO, toNatUp → tN
set_option linter.unusedVariables false
set_option linter.unusedSimpArgs false
theorem getI_no {bs : List Nat} {a : Int} (h : a < 0 ∨ (bs.length : Int) < a) : Wire.getI bs a = (0, 0, 1) := by unfold Wire.getI; rw [if_pos h]
theorem getI_at {bs : List Nat} {a : Nat} (h : a ≤ bs.length) : Wire.getI bs a = if (Wire.scan (bs.drop a) 0 0).2.2 = 0 then ((Wire.scan (bs.drop a) 0 0).1, (a : Int) + (Wire.scan (bs.drop a) 0 0).2.1, 0) else (0, 0, (Wire.scan (bs.drop a) 0 0).2.2) := by
  unfold Wire.getI
  rw [if_neg (by omega)]
  simp
theorem shl_binV {c k : Nat} (hc : c < 256) (hk : k < 10) : ∀ K : Value → Prop, binV .shl (.int .u64 ((c : Int) % 128)) (.int .i64 (7 * (k : Int))) K = K (.int .u64 (((c % 128 : Nat) : Int) * 2 ^ (7 * k) % 18446744073709551616)) := by
  intro K
  have e1 : (7 * (k : Int)).toNat = 7 * k := by omega
  have e2 : (c : Int) % 128 = ((c % 128 : Nat) : Int) := by omega
  have hp : (2 : Int) ^ (7 * k) = ((2 ^ (7 * k) : Nat) : Int) := by simp
  unfold binV
  dsimp only
  rw [if_pos (show 0 ≤ 7 * (k : Int) ∧ 7 * (k : Int) ≤ kB .u64 from ⟨by omega, by simp only [kB]; omega⟩), e1, e2]
  unfold arK
  dsimp only
  split
  · rename_i h
    unfold inR at h
    congr 2
    omega
  · rw [u64_wrap]
set_option maxRecDepth 100000 in
set_option maxHeartbeats 8000000 in
theorem int_at (bs : List Nat) (a : Nat) (hb : bs.length ≤ 1099511627776) (h8 : ∀ c ∈ bs, c < 256) (ha : a ≤ bs.length) (x y e : Int) (hr : Wire.getI bs a = (x, y, e)) :
    FnOk Try.prog 89 [.t (encUs bs), .t (.int a)] [] (.tup [.t (.int x), .t (.int y), .t (.int e)]) [] := by
  rw [getI_at ha] at hr
  obtain ⟨⟨s1, s2, s3⟩, hs⟩ : ∃ s, Wire.scan (bs.drop a) 0 0 = s := ⟨_, rfl⟩
  rw [hs] at hr
  dsimp only at hr
  refine FnOk.intro fact_mixed Try.func89 rfl Try.ntmps89 (by rfl) (by simp) ?_
  repeat (first | (refine nf1_sound rfl ?_; simp [go_sem, ↓iO, iO, tN]; (repeat (refine anI ?_)); try (refine ⟨dcK, ?_⟩)) | ((first | refine itePos (by omega) ?_ | refine iteNeg (by omega) ?_); try simp [go_sem, ↓iO, iO, tN]) | (refine ⟨dcK, ?_⟩))
  refine nf1_sound' _ _ _ ?_; simp only [nf1]
  refine CW.loop (ι := Nat × Nat) (fun p => ⟨[(0, .t (encUs bs)), (1, .t (.int a)), (18, .t (.int p.1)), (7, .t (.lit (.int .u64 p.2)))], []⟩) (fun p => p.1 ≤ 10 ∧ p.2 < 18446744073709551616 ∧ (p.1 < 10 → p.2 < 2 ^ (7 * p.1)) ∧ Wire.scan (bs.drop (a + p.1)) p.1 p.2 = (s1, s2, s3)) (fun p => 10 - p.1) (0, 0) [] ⟨by simp, by simp, by simp, by simpa using hs⟩ ?_ ?_
  · simp [go_sem, ↓iO, iO, tN]
  rintro ⟨k, u⟩ ⟨hk, hu, hu7, hsc⟩
  dsimp only at hk hu hu7 hsc ⊢
  by_cases hk10 : k < 10
  · by_cases hlen : a + k < bs.length
    · obtain ⟨c, hc⟩ := has_get hlen
      have hc8 := h8 c (mem_get hc)
      have hand := and_127 hc8
      have e2 : ((c % 128 : Nat) : Int) = (c : Int) % 128 := by omega
      rw [e2] at hand
      have hsh := shl_binV hc8 hk10
      have hor := shl_join hk10 (hu7 hk10) hc8
      obtain ⟨E, hE⟩ : ∃ E, ((c % 128 : Nat) : Int) * 2 ^ (7 * k) % 18446744073709551616 = E := ⟨_, rfl⟩
      rw [hE] at hor
      simp only [hE] at hsh
      have hlt : (u + c % 128 * 2 ^ (7 * k)) % 18446744073709551616 < 18446744073709551616 := Nat.mod_lt _ (by omega)
      have hst : k < 9 → (u + c % 128 * 2 ^ (7 * k)) % 18446744073709551616 < 2 ^ (7 * (k + 1)) := fun h => Wire.step_lt h (hu7 hk10)
      rw [drop_get hc] at hsc
      by_cases hbig : 128 ≤ c
      · rw [Wire.scan_more hk10 hbig] at hsc
        obtain ⟨U, hU⟩ : ∃ U, (u + c % 128 * 2 ^ (7 * k)) % 18446744073709551616 = U := ⟨_, rfl⟩
        rw [hU] at hor hsc hlt hst
        repeat (first | (refine nf1_sound rfl ?_; simp [go_sem, ↓iO, iO, tN, hc, hand, ↓hsh, hor]; (repeat (refine anI ?_)); try (refine ⟨dcK, ?_⟩)) | ((first | refine itePos (by omega) ?_ | refine iteNeg (by omega) ?_); try simp [go_sem, ↓iO, iO, tN, hc, hand, ↓hsh, hor]) | (refine ⟨dcK, ?_⟩))
        rw [RoundQ_normal]; refine ⟨(k + 1, U), [], ?_, ?_, ?_⟩
        · exact ⟨by dsimp only; omega, hlt, fun h => hst (by dsimp only at h; omega), by rw [← Nat.add_assoc]; exact hsc⟩
        · dsimp only
          omega
        simp [go_sem, ↓iO, iO, tN]
      · by_cases hbad : (k = 9 ∧ 1 < c) ∨ (0 < k ∧ c = 0)
        · rw [Wire.scan_bad hk10 (by omega) hbad] at hsc
          obtain ⟨rfl, rfl, rfl⟩ : 0 = s1 ∧ 0 = s2 ∧ 3 = s3 := by simpa using hsc
          rw [if_neg (by decide)] at hr
          obtain ⟨rfl, rfl, rfl⟩ : 0 = x ∧ 0 = y ∧ 3 = e := by simpa using hr
          obtain ⟨U, hU⟩ : ∃ U, (u + c % 128 * 2 ^ (7 * k)) % 18446744073709551616 = U := ⟨_, rfl⟩
          rw [hU] at hor
          rcases hbad with ⟨hk9, h1c⟩ | ⟨h0k, hc0⟩
          · repeat (first | (refine nf1_sound rfl ?_; simp [go_sem, ↓iO, iO, tN, hc, hand, ↓hsh, hor]; (repeat (refine anI ?_)); try (refine ⟨dcK, ?_⟩)) | ((first | refine itePos (by omega) ?_ | refine iteNeg (by omega) ?_); try simp [go_sem, ↓iO, iO, tN, hc, hand, ↓hsh, hor]) | (refine ⟨dcK, ?_⟩))
            first | rw [RetQ_ret] | rw [RetQ_normal]
            refine ⟨[], ?_⟩
            simp [go_sem, ↓iO, iO, tN]
          · by_cases hk9 : k = 9
            · repeat (first | (refine nf1_sound rfl ?_; simp [go_sem, ↓iO, iO, tN, hc, hand, ↓hsh, hor]; (repeat (refine anI ?_)); try (refine ⟨dcK, ?_⟩)) | ((first | refine itePos (by omega) ?_ | refine iteNeg (by omega) ?_); try simp [go_sem, ↓iO, iO, tN, hc, hand, ↓hsh, hor]) | (refine ⟨dcK, ?_⟩))
              first | rw [RetQ_ret] | rw [RetQ_normal]
              refine ⟨[], ?_⟩
              simp [go_sem, ↓iO, iO, tN]
            · repeat (first | (refine nf1_sound rfl ?_; simp [go_sem, ↓iO, iO, tN, hc, hand, ↓hsh, hor]; (repeat (refine anI ?_)); try (refine ⟨dcK, ?_⟩)) | ((first | refine itePos (by omega) ?_ | refine iteNeg (by omega) ?_); try simp [go_sem, ↓iO, iO, tN, hc, hand, ↓hsh, hor]) | (refine ⟨dcK, ?_⟩))
              first | rw [RetQ_ret] | rw [RetQ_normal]
              refine ⟨[], ?_⟩
              simp [go_sem, ↓iO, iO, tN]
        · rw [Wire.scan_good hk10 (by omega) hbad] at hsc
          have hx := unfold_bits hlt
          have ha1 := and_1 hlt
          obtain ⟨U, hU⟩ : ∃ U, (u + c % 128 * 2 ^ (7 * k)) % 18446744073709551616 = U := ⟨_, rfl⟩
          rw [hU] at hor hsc hlt hx ha1
          have e3 : ((U % 2 : Nat) : Int) = (U : Int) % 2 := by omega
          rw [e3] at ha1
          obtain ⟨rfl, rfl, rfl⟩ : Wire.unfold_ U = s1 ∧ k + 1 = s2 ∧ 0 = s3 := by simpa using hsc
          rw [if_pos rfl] at hr
          obtain ⟨rfl, rfl, rfl⟩ : Wire.unfold_ U = x ∧ (a : Int) + (k + 1 : Nat) = y ∧ 0 = e := by simpa using hr
          by_cases hk9 : k = 9
          · have : c ≤ 1 := by omega
            by_cases hc0 : c = 0
            · omega
            · repeat (first | (refine nf1_sound rfl ?_; simp [go_sem, ↓iO, iO, tN, hc, hand, ↓hsh, hor, ha1, hx]; (repeat (refine anI ?_)); try (refine ⟨dcK, ?_⟩)) | ((first | refine itePos (by omega) ?_ | refine iteNeg (by omega) ?_); try simp [go_sem, ↓iO, iO, tN, hc, hand, ↓hsh, hor, ha1, hx]) | (refine ⟨dcK, ?_⟩))
              first | rw [RetQ_ret] | rw [RetQ_normal]
              refine ⟨[], ?_⟩
              simp [go_sem, ↓iO, iO, tN]
              omega
          · by_cases hk0 : k = 0
            · repeat (first | (refine nf1_sound rfl ?_; simp [go_sem, ↓iO, iO, tN, hc, hand, ↓hsh, hor, ha1, hx]; (repeat (refine anI ?_)); try (refine ⟨dcK, ?_⟩)) | ((first | refine itePos (by omega) ?_ | refine iteNeg (by omega) ?_); try simp [go_sem, ↓iO, iO, tN, hc, hand, ↓hsh, hor, ha1, hx]) | (refine ⟨dcK, ?_⟩))
              first | rw [RetQ_ret] | rw [RetQ_normal]
              refine ⟨[], ?_⟩
              simp [go_sem, ↓iO, iO, tN]
              omega
            · have hc0 : ¬ c = 0 := by omega
              repeat (first | (refine nf1_sound rfl ?_; simp [go_sem, ↓iO, iO, tN, hc, hand, ↓hsh, hor, ha1, hx]; (repeat (refine anI ?_)); try (refine ⟨dcK, ?_⟩)) | ((first | refine itePos (by omega) ?_ | refine iteNeg (by omega) ?_); try simp [go_sem, ↓iO, iO, tN, hc, hand, ↓hsh, hor, ha1, hx]) | (refine ⟨dcK, ?_⟩))
              first | rw [RetQ_ret] | rw [RetQ_normal]
              refine ⟨[], ?_⟩
              simp [go_sem, ↓iO, iO, tN]
              omega
    · rw [List.drop_eq_nil_of_le (by omega)] at hsc
      unfold Wire.scan at hsc
      rw [if_pos hk10] at hsc
      obtain ⟨rfl, rfl, rfl⟩ : 0 = s1 ∧ 0 = s2 ∧ 2 = s3 := by simpa using hsc
      rw [if_neg (by decide)] at hr
      obtain ⟨rfl, rfl, rfl⟩ : 0 = x ∧ 0 = y ∧ 2 = e := by simpa using hr
      repeat (first | (refine nf1_sound rfl ?_; simp [go_sem, ↓iO, iO, tN]; (repeat (refine anI ?_)); try (refine ⟨dcK, ?_⟩)) | ((first | refine itePos (by omega) ?_ | refine iteNeg (by omega) ?_); try simp [go_sem, ↓iO, iO, tN]) | (refine ⟨dcK, ?_⟩))
      first | rw [RetQ_ret] | rw [RetQ_normal]
      refine ⟨[], ?_⟩
      simp [go_sem, ↓iO, iO, tN]
  · rw [Wire.scan_ten hk10] at hsc
    obtain ⟨rfl, rfl, rfl⟩ : 0 = s1 ∧ 0 = s2 ∧ 3 = s3 := by simpa using hsc
    rw [if_neg (by decide)] at hr
    obtain ⟨rfl, rfl, rfl⟩ : 0 = x ∧ 0 = y ∧ 3 = e := by simpa using hr
    repeat (first | (refine nf1_sound rfl ?_; simp [go_sem, ↓iO, iO, tN]; (repeat (refine anI ?_)); try (refine ⟨dcK, ?_⟩)) | ((first | refine itePos (by omega) ?_ | refine iteNeg (by omega) ?_); try simp [go_sem, ↓iO, iO, tN]) | (refine ⟨dcK, ?_⟩))
    first | rw [RetQ_ret] | rw [RetQ_normal]
    refine ⟨[], ?_⟩
    simp [go_sem, ↓iO, iO, tN]
set_option maxRecDepth 100000 in
theorem int_fn (bs : List Nat) (a : Int) (hb : bs.length ≤ 1099511627776) (h8 : ∀ c ∈ bs, c < 256) (x y e : Int) (hr : Wire.getI bs a = (x, y, e)) :
    FnOk Try.prog 89 [.t (encUs bs), .t (.int a)] [] (.tup [.t (.int x), .t (.int y), .t (.int e)]) [] := by
  by_cases h0 : a < 0
  · rw [getI_no (.inl h0)] at hr
    obtain ⟨rfl, rfl, rfl⟩ : 0 = x ∧ 0 = y ∧ 1 = e := by simpa using hr
    refine FnOk.intro fact_mixed Try.func89 rfl Try.ntmps89 (by rfl) (by simp) ?_
    repeat (first | (refine nf1_sound rfl ?_; simp [go_sem, ↓iO, iO, tN]; (repeat (refine anI ?_)); try (refine ⟨dcK, ?_⟩)) | ((first | refine itePos (by omega) ?_ | refine iteNeg (by omega) ?_); try simp [go_sem, ↓iO, iO, tN]) | (refine ⟨dcK, ?_⟩))
    first | rw [RetQ_ret] | rw [RetQ_normal]
    refine ⟨[], ?_⟩
    simp [go_sem, ↓iO, iO, tN]
  · by_cases h1 : (bs.length : Int) < a
    · rw [getI_no (.inr h1)] at hr
      obtain ⟨rfl, rfl, rfl⟩ : 0 = x ∧ 0 = y ∧ 1 = e := by simpa using hr
      refine FnOk.intro fact_mixed Try.func89 rfl Try.ntmps89 (by rfl) (by simp) ?_
      repeat (first | (refine nf1_sound rfl ?_; simp [go_sem, ↓iO, iO, tN]; (repeat (refine anI ?_)); try (refine ⟨dcK, ?_⟩)) | ((first | refine itePos (by omega) ?_ | refine iteNeg (by omega) ?_); try simp [go_sem, ↓iO, iO, tN]) | (refine ⟨dcK, ?_⟩))
      first | rw [RetQ_ret] | rw [RetQ_normal]
      refine ⟨[], ?_⟩
      simp [go_sem, ↓iO, iO, tN]
    · obtain ⟨n, rfl⟩ : ∃ n : Nat, a = (n : Int) := ⟨a.toNat, by omega⟩
      exact int_at bs n hb h8 (by omega) x y e hr
end Go.Proofs.Ytopmmodcaoaaeaa
