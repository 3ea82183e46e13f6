/- keep.Mod as a contract: the remainder from 0 on. No condition. -/
import Derived.Test.YtopmmodcaoaaeaaFacts
namespace Go.Proofs.Ytopmmodcaoaaeaa
open Go.RowKit Sy
open Go.IntWalk renaming iteOmega → iO, toNatUp → tN
set_option linter.unusedVariables false
set_option linter.unusedSimpArgs false

/-- Mod's answer. -/
def modN (x n : Int) : Int := if n < 1 then 0 else x % n
theorem modN_range {x n : Int} (h : 1 ≤ n) : 0 ≤ modN x n ∧ modN x n < n := by
  unfold modN; rw [if_neg (by omega)]
  exact ⟨Int.emod_nonneg _ (by omega), Int.emod_lt_of_pos _ (by omega)⟩
theorem modN_pos {x n : Int} (h : 1 ≤ n) : modN x n = x % n := by unfold modN; rw [if_neg (by omega)]
theorem tmod_neg {x n : Int} (h1 : 1 ≤ n) (h : x.tmod n < 0) : x.tmod n + n = x % n := by
  have h2 := Int.tmod_def x n
  have h3 := Int.emod_def x n
  rw [Int.tmod_eq_emod] at *
  split at h
  · have := Int.emod_nonneg x (show n ≠ 0 by omega); omega
  · rename_i hh
    rw [if_neg hh]
    have : ((n.natAbs : Nat) : Int) = n := by omega
    omega
theorem tmod_pos {x n : Int} (h1 : 1 ≤ n) (h : 0 ≤ x.tmod n) : x.tmod n = x % n := by
  rw [Int.tmod_eq_emod] at *
  split
  · omega
  · rename_i hh
    rw [if_neg hh] at h
    have h3 : ((n.natAbs : Nat) : Int) = n := by omega
    have := Int.emod_lt_of_pos x (show 0 < n by omega)
    omega

set_option maxRecDepth 100000 in
theorem mod_fn (x n : Int) (h2 : n ≤ 9223372036854775807) : FnOk Try.prog 28 [.t (.int x), .t (.int n)] [] (.t (.int (modN x n))) [] := by
  refine FnOk.intro fact_mixed Try.func28 rfl Try.ntmps28 (by rfl) (by simp) ?_
  by_cases h1 : n < 1
  · have R : modN x n = 0 := by unfold modN; rw [if_pos h1]
    repeat (first | (refine nf1_sound rfl ?_; simp [go_sem, ↓iO, iO, tN, R]; (repeat (refine anI ?_)); try (refine ⟨dcK, ?_⟩)) | ((first | refine itePos (by omega) ?_ | refine iteNeg (by omega) ?_); try simp [go_sem, ↓iO, iO, tN, R]) | (refine ⟨dcK, ?_⟩))
    first | rw [RetQ_ret] | rw [RetQ_normal]
    refine ⟨[], ?_⟩
    simp [go_sem, ↓iO, iO, tN, R]
  · have R : modN x n = x % n := modN_pos (by omega)
    have h5 := Int.emod_nonneg x (show n ≠ 0 by omega)
    have h6 := Int.emod_lt_of_pos x (show 0 < n by omega)
    by_cases h3 : 0 ≤ x
    · repeat (first | (refine nf1_sound rfl ?_; simp [go_sem, ↓iO, iO, tN, R]; (repeat (refine anI ?_)); try (refine ⟨dcK, ?_⟩)) | ((first | refine itePos (by omega) ?_ | refine iteNeg (by omega) ?_); try simp [go_sem, ↓iO, iO, tN, R]) | (refine ⟨dcK, ?_⟩))
      first | rw [RetQ_ret] | rw [RetQ_normal]
      refine ⟨[], ?_⟩
      simp [go_sem, ↓iO, iO, tN, R]
    · obtain ⟨t, ht⟩ : ∃ t, t = x.tmod n := ⟨_, rfl⟩
      obtain ⟨m, hm⟩ : ∃ m, m = x % n := ⟨_, rfl⟩
      have h7 : t < 0 → t + n = m := by rw [ht, hm]; exact tmod_neg (by omega)
      have h8 : 0 ≤ t → t = m := by rw [ht, hm]; exact tmod_pos (by omega)
      rw [← hm] at h5 h6 R
      have ht' := ht.symm
      clear hm ht
      by_cases h4 : t < 0
      · have h9 := h7 h4
        clear h7 h8
        repeat (first | (refine nf1_sound rfl ?_; simp [go_sem, ↓iO, iO, tN, R, ht']; (repeat (refine anI ?_)); try (refine ⟨dcK, ?_⟩)) | ((first | refine itePos (by omega) ?_ | refine iteNeg (by omega) ?_); try simp [go_sem, ↓iO, iO, tN, R, ht']) | (refine ⟨dcK, ?_⟩))
        first | rw [RetQ_ret] | rw [RetQ_normal]
        refine ⟨[], ?_⟩
        simp [go_sem, ↓iO, iO, tN, R, h9]
      · have h9 := h8 (by omega)
        clear h7 h8
        repeat (first | (refine nf1_sound rfl ?_; simp [go_sem, ↓iO, iO, tN, R, ht']; (repeat (refine anI ?_)); try (refine ⟨dcK, ?_⟩)) | ((first | refine itePos (by omega) ?_ | refine iteNeg (by omega) ?_); try simp [go_sem, ↓iO, iO, tN, R, ht']) | (refine ⟨dcK, ?_⟩))
        first | rw [RetQ_ret] | rw [RetQ_normal]
        refine ⟨[], ?_⟩
        simp [go_sem, ↓iO, iO, tN, R, h9]
end Go.Proofs.Ytopmmodcaoaaeaa
