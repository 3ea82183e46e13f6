/- Arguments of the laws. No condition. -/
import Derived.Test.YtopmmodcaoaaeaaKSrc
import Derived.Test.YtopmmodcaoaaeaaSyT
namespace Go.Proofs.Ytopmmodcaoaaeaa
open Go.RowKit Sy
set_option linter.unusedVariables false
set_option linter.unusedSimpArgs false
theorem int_in {x : T} (h : InSh (.int .i64) x) : ∃ n, x = .int n ∧ -9223372036854775808 ≤ n ∧ n ≤ 9223372036854775807 := by
  obtain ⟨n, rfl, hw⟩ := insh_int h
  exact ⟨n, rfl, wf_i64 hw⟩
theorem len_max {n : Nat} (h : n ≤ maxLen) : n ≤ 9223372036854775807 := by unfold maxLen at h; omega
theorem ints_in {x : T} (h : InSh (.sl (.int .i64)) x) : ∃ l, x = encIs l ∧ l.length ≤ 9223372036854775807 ∧ ∀ z ∈ l, -9223372036854775808 ≤ z ∧ z ≤ 9223372036854775807 := by
  obtain ⟨xs, rfl, hl, hx⟩ := insh_sl h
  obtain ⟨l, rfl, hq⟩ := insh_list (en := encI) (Q := fun z => -9223372036854775808 ≤ z ∧ z ≤ 9223372036854775807) (fun y hy => by
    obtain ⟨n, rfl, hw⟩ := int_in hy
    exact ⟨n, rfl, hw⟩) xs hx
  exact ⟨l, rfl, by rw [List.length_map] at hl; exact len_max hl, hq⟩
theorem two_in {x : T} (h : InSh (.st [.int .i64, .int .i64]) x) : ∃ a b, x = .agg [.int a, .int b] ∧ (-9223372036854775808 ≤ a ∧ a ≤ 9223372036854775807) ∧ -9223372036854775808 ≤ b ∧ b ≤ 9223372036854775807 := by
  obtain ⟨xs, rfl, h⟩ := insh_st h
  obtain ⟨y, ys, rfl, h1, h⟩ := inshs_cons h
  obtain ⟨z, zs, rfl, h2, h⟩ := inshs_cons h
  obtain rfl := inshs_nil h
  obtain ⟨a, rfl, ha⟩ := int_in h1
  obtain ⟨b, rfl, hb⟩ := int_in h2
  exact ⟨a, b, rfl, ha, hb⟩
theorem three_in {x : T} (h : InSh (.st [.int .i64, .int .i64, .int .i64]) x) : ∃ a b c, x = .agg [.int a, .int b, .int c] ∧ (-9223372036854775808 ≤ a ∧ a ≤ 9223372036854775807) ∧ (-9223372036854775808 ≤ b ∧ b ≤ 9223372036854775807) ∧ -9223372036854775808 ≤ c ∧ c ≤ 9223372036854775807 := by
  obtain ⟨xs, rfl, h⟩ := insh_st h
  obtain ⟨y, ys, rfl, h1, h⟩ := inshs_cons h
  obtain ⟨z, zs, rfl, h2, h⟩ := inshs_cons h
  obtain ⟨u, us, rfl, h3, h⟩ := inshs_cons h
  obtain rfl := inshs_nil h
  obtain ⟨a, rfl, ha⟩ := int_in h1
  obtain ⟨b, rfl, hb⟩ := int_in h2
  obtain ⟨c, rfl, hc⟩ := int_in h3
  exact ⟨a, b, c, rfl, ha, hb, hc⟩
end Go.Proofs.Ytopmmodcaoaaeaa
