/- round.divide as a contract. No condition. -/
import Derived.Test.YtgjfkklemelejaaFacts
namespace Go.Proofs.Ytgjfkklemelejaa
open Go.RowKit Sy
set_option linter.unusedVariables false
set_option linter.unusedSimpArgs false
/-- To the nearest integer, halves up. -/
def halfV (a b : Int) : Int := (2 * a + b) / (2 * b)
theorem ediv_eq {a b q r : Int} (h : a = b * q + r) (h1 : 0 ≤ r) (h2 : r < b) : a / b = q := by
  have hb : 0 < b := by omega
  rw [h, Int.add_comm, Int.add_mul_ediv_left _ _ (by omega), Int.ediv_eq_zero_of_lt h1 h2]; omega
theorem emod_eq {a b q r : Int} (h : a = b * q + r) (h1 : 0 ≤ r) (h2 : r < b) : a % b = r := by
  have h3 := ediv_eq h h1 h2
  have h4 := Int.emod_def a b
  rw [h3] at h4; omega
theorem tdiv_pos {a b : Int} (hb : 1 ≤ b) (h : 0 ≤ a.tmod b) : a.tdiv b = a / b ∧ a.tmod b = a % b := by
  have h1 := Int.mul_tdiv_add_tmod a b
  have h2 : a.tmod b < b := Int.tmod_lt_of_pos a (by omega)
  have h3 := ediv_eq (a := a) (b := b) (q := a.tdiv b) (r := a.tmod b) (by omega) h h2
  have h4 := emod_eq (a := a) (b := b) (q := a.tdiv b) (r := a.tmod b) (by omega) h h2
  exact ⟨h3.symm, h4.symm⟩
theorem tdiv_neg {a b : Int} (hb : 1 ≤ b) (h : a.tmod b < 0) : a.tdiv b - 1 = a / b ∧ a.tmod b + b = a % b := by
  have h1 := Int.mul_tdiv_add_tmod a b
  have h2 : -b < a.tmod b := Int.lt_tmod_of_pos a (by omega)
  have h5 : b * (a.tdiv b - 1) = b * a.tdiv b - b := by rw [Int.mul_sub]; omega
  have h3 := ediv_eq (a := a) (b := b) (q := a.tdiv b - 1) (r := a.tmod b + b) (by omega) (by omega) (by omega)
  have h4 := emod_eq (a := a) (b := b) (q := a.tdiv b - 1) (r := a.tmod b + b) (by omega) (by omega) (by omega)
  exact ⟨h3.symm, h4.symm⟩
theorem div_bound {a b : Int} (hb : 1 ≤ b) (h1 : -2305843009213693952 ≤ a) (h2 : a ≤ 2305843009213693952) : -2305843009213693952 ≤ a / b ∧ a / b ≤ 2305843009213693952 := by
  constructor
  · exact Int.le_ediv_of_mul_le (by omega) (by omega)
  · rcases Int.lt_or_le a 0 with h | h
    · have := Int.ediv_neg_of_neg_of_pos h (show 0 < b by omega); omega
    · exact Int.le_trans (Int.ediv_le_self b h) h2
theorem halfV_eq {a b : Int} (hb : 1 ≤ b) : halfV a b = a / b + (if b ≤ 2 * (a % b) then 1 else 0) := by
  have h1 := Int.mul_ediv_add_emod a b
  have h2 := Int.emod_nonneg a (show b ≠ 0 by omega)
  have h3 := Int.emod_lt_of_pos a (show 0 < b by omega)
  unfold halfV
  have h4 : 2 * b * (a / b) = 2 * (b * (a / b)) := Int.mul_assoc _ _ _
  split
  · refine ediv_eq (r := 2 * (a % b) - b) ?_ (by omega) (by omega)
    have h5 : 2 * b * (a / b + 1) = 2 * b * (a / b) + 2 * b := by rw [Int.mul_add, Int.mul_one]
    omega
  · refine ediv_eq (r := 2 * (a % b) + b) ?_ (by omega) (by omega)
    rw [Int.add_zero]; omega
theorem quo_fact {a b : Int} : a.tdiv b = a.tdiv b := rfl
set_option maxRecDepth 100000 in
set_option maxHeartbeats 4000000 in
theorem divide_fn (a b : Int) (h1 : 1 ≤ b) (h2 : b ≤ 1099511627776) (h3 : -2305843009213693952 ≤ a) (h4 : a ≤ 2305843009213693952) :
    FnOk Try.prog 80 [.t (.int a), .t (.int b)] [] (.tup [.t (.int (a / b)), .t (.int (a % b)), .t (.bool true)]) [] := by
  have hb := div_bound h1 h3 h4
  have h6 := Int.emod_nonneg a (show b ≠ 0 by omega)
  have h7 := Int.emod_lt_of_pos a (show 0 < b by omega)
  by_cases ha : 0 ≤ a
  · refine FnOk.intro fact_mixed Try.func80 rfl Try.ntmps80 (by rfl) (by simp) ?_
    obtain ⟨q, hq⟩ : ∃ q, a / b = q := ⟨_, rfl⟩
    obtain ⟨r, hr⟩ : ∃ r, a % b = r := ⟨_, rfl⟩
    rw [hq] at hb
    rw [hr] at h6 h7
    repeat (first | (refine nf1_sound rfl ?_; simp [go_sem, ↓IntWalk.iteOmega, IntWalk.iteOmega, IntWalk.toNatUp, hq, hr]; (repeat (refine And.intro (by omega) ?_)); try (refine ⟨DrawChk_of (by kernel_rfl), ?_⟩)) | (refine itePos (by omega) ?_; try simp [go_sem, ↓IntWalk.iteOmega, IntWalk.iteOmega, IntWalk.toNatUp, hq, hr]) | (refine iteNeg (by omega) ?_; try simp [go_sem, ↓IntWalk.iteOmega, IntWalk.iteOmega, IntWalk.toNatUp, hq, hr]) | (refine ⟨DrawChk_of (by kernel_rfl), ?_⟩))
    first | rw [RetQ_ret] | rw [RetQ_normal]
    refine ⟨[], ?_⟩
    simp [go_sem, ↓IntWalk.iteOmega, IntWalk.iteOmega, IntWalk.toNatUp, hq, hr]
  · have p1 := fun h => tdiv_pos (a := a) h1 h
    have p2 := fun h => tdiv_neg (a := a) h1 h
    obtain ⟨q, hq⟩ : ∃ q, a / b = q := ⟨_, rfl⟩
    obtain ⟨r, hr⟩ : ∃ r, a % b = r := ⟨_, rfl⟩
    obtain ⟨tq, htq⟩ : ∃ q, a.tdiv b = q := ⟨_, rfl⟩
    obtain ⟨tr, htr⟩ : ∃ r, a.tmod b = r := ⟨_, rfl⟩
    rw [hq] at hb p1 p2
    rw [hr] at h6 h7 p1 p2
    rw [htq, htr] at p1 p2
    rw [hq, hr]
    clear hq hr
    refine FnOk.intro fact_mixed Try.func80 rfl Try.ntmps80 (by rfl) (by simp) ?_
    by_cases hn : 0 ≤ tr
    · obtain ⟨e1, e2⟩ := p1 hn
      subst e1 e2
      clear p1 p2
      repeat (first | (refine nf1_sound rfl ?_; simp [go_sem, ↓IntWalk.iteOmega, IntWalk.iteOmega, IntWalk.toNatUp, htq, htr]; (repeat (refine And.intro (by omega) ?_)); try (refine ⟨DrawChk_of (by kernel_rfl), ?_⟩)) | (refine itePos (by omega) ?_; try simp [go_sem, ↓IntWalk.iteOmega, IntWalk.iteOmega, IntWalk.toNatUp, htq, htr]) | (refine iteNeg (by omega) ?_; try simp [go_sem, ↓IntWalk.iteOmega, IntWalk.iteOmega, IntWalk.toNatUp, htq, htr]) | (refine ⟨DrawChk_of (by kernel_rfl), ?_⟩))
      first | rw [RetQ_ret] | rw [RetQ_normal]
      refine ⟨[], ?_⟩
      simp [go_sem, ↓IntWalk.iteOmega, IntWalk.iteOmega, IntWalk.toNatUp]
    · obtain ⟨e1, e2⟩ := p2 (by omega)
      clear p1 p2
      repeat (first | (refine nf1_sound rfl ?_; simp [go_sem, ↓IntWalk.iteOmega, IntWalk.iteOmega, IntWalk.toNatUp, htq, htr]; (repeat (refine And.intro (by omega) ?_)); try (refine ⟨DrawChk_of (by kernel_rfl), ?_⟩)) | (refine itePos (by omega) ?_; try simp [go_sem, ↓IntWalk.iteOmega, IntWalk.iteOmega, IntWalk.toNatUp, htq, htr]) | (refine iteNeg (by omega) ?_; try simp [go_sem, ↓IntWalk.iteOmega, IntWalk.iteOmega, IntWalk.toNatUp, htq, htr]) | (refine ⟨DrawChk_of (by kernel_rfl), ?_⟩))
      first | rw [RetQ_ret] | rw [RetQ_normal]
      refine ⟨[], ?_⟩
      simp [go_sem, ↓IntWalk.iteOmega, IntWalk.iteOmega, IntWalk.toNatUp, e1, e2]
end Go.Proofs.Ytgjfkklemelejaa
