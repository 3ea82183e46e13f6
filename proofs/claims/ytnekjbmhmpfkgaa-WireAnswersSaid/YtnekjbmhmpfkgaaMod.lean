/- Mod as a contract: the remainder from 0 on. No condition. -/
import Derived.Test.YtnekjbmhmpfkgaaRows
import Derived.Test.YtnekjbmhmpfkgaaLib
namespace Go.Proofs.Ytnekjbmhmpfkgaa
open Go.RowKit
set_option linter.unusedVariables false
set_option linter.unusedSimpArgs false

/-- Mod's answer. -/
def modN (x n : Int) : Int := if n < 1 then 0 else x % n
theorem modN_range {x n : Int} (h : 1 ≤ n) : 0 ≤ modN x n ∧ modN x n < n := by
  unfold modN; rw [if_neg (by omega)]
  exact ⟨Int.emod_nonneg _ (by omega), Int.emod_lt_of_pos _ (by omega)⟩

theorem tmod_neg {x n : Int} (h1 : 1 ≤ n) (h : x.tmod n < 0) : x.tmod n + n = x % n := by
  have h2 := Int.tmod_def x n
  have h3 := Int.emod_def x n
  rw [Int.tmod_eq_emod] at *
  split at h
  · have := Int.emod_nonneg x (show n ≠ 0 by omega); omega
  · rename_i hh
    rw [if_neg hh]
    have : ((n.natAbs : Nat) : Int) = n := by omega
    omega
theorem tmod_pos {x n : Int} (h1 : 1 ≤ n) (h : 0 ≤ x.tmod n) : x.tmod n = x % n := by
  rw [Int.tmod_eq_emod] at *
  split
  · omega
  · rename_i hh
    rw [if_neg hh] at h
    have h3 : ((n.natAbs : Nat) : Int) = n := by omega
    have := Int.emod_lt_of_pos x (show 0 < n by omega)
    omega

set_option maxRecDepth 100000 in
set_option maxHeartbeats 400000 in
theorem mod_any (x n : Int) (w : World) (h2 : n ≤ 9223372036854775807) (h3 : -9223372036854775808 ≤ x) (h4 : x ≤ 9223372036854775807) :
    Calls Try.prog 9 #[.int .i64 x, .int .i64 n] w fun e w' => e = .returned (.int .i64 (modN x n)) ∧ w = w' := by
  by_cases h1 : 1 ≤ n
  · have R : Hid (modN x n = x % n) := by unfold Hid modN; rw [if_neg (by omega)]
    have h5 := Int.emod_nonneg x (show n ≠ 0 by omega)
    have h6 := Int.emod_lt_of_pos x (show 0 < n by omega)
    go_enter Try.func9, Try.ntmps9
    go_wp2
    · rename_i h
      go_ret
      refine ⟨ret_int ?_, rfl⟩
      rw [R.out, tmod_neg h1 h]
      unfold wrap64
      omega
    · rename_i h
      go_ret
      exact ⟨ret_int (by rw [R.out, tmod_pos h1 h]), rfl⟩
  · have R : Hid (modN x n = 0) := by unfold Hid modN; rw [if_pos (by omega)]
    go_enter Try.func9, Try.ntmps9
    go_wp2
    go_ret
    exact ⟨ret_int R.out.symm, rfl⟩
end Go.Proofs.Ytnekjbmhmpfkgaa
