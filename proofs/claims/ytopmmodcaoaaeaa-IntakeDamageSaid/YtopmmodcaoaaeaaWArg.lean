/- Arguments of the laws: numbers, bytes, lists of bytes. No condition. -/
import Derived.Test.YtopmmodcaoaaeaaWPut
import Derived.Test.YtopmmodcaoaaeaaSyT
namespace Go.Proofs.Ytopmmodcaoaaeaa
open Go.RowKit Sy
set_option linter.unusedVariables false
set_option linter.unusedSimpArgs false
theorem wint_in {x : T} (h : InSh (.int .i64) x) : ∃ n, x = .int n ∧ -9223372036854775808 ≤ n ∧ n ≤ 9223372036854775807 := by
  obtain ⟨n, rfl, hw⟩ := insh_int h
  exact ⟨n, rfl, wf_i64 hw⟩
theorem wlen_max {n : Nat} (h : n ≤ maxLen) : n ≤ 9223372036854775807 := by unfold maxLen at h; omega
theorem wu8_in {x : T} (h : InSh (.int .u8) x) : ∃ n : Nat, x = .lit (.int .u8 n) ∧ n < 256 := by
  obtain ⟨n, rfl, hw⟩ := insh_int h
  have := wf_u8 hw
  exact ⟨n.toNat, by congr 2; omega, by omega⟩
theorem wu16_in {x : T} (h : InSh (.int .u16) x) : ∃ n : Nat, x = .lit (.int .u16 n) ∧ n < 65536 := by
  obtain ⟨n, rfl, hw⟩ := insh_int h
  have := wf_u16 hw
  exact ⟨n.toNat, by congr 2; omega, by omega⟩
theorem bytes_in {x : T} (h : InSh (.sl (.int .u8)) x) : ∃ l, x = encUs l ∧ l.length ≤ 9223372036854775807 ∧ ∀ c ∈ l, c < 256 := by
  obtain ⟨xs, rfl, hl, hx⟩ := insh_sl h
  obtain ⟨l, rfl, hq⟩ := insh_list (en := encU) (Q := fun z => z < 256) (fun y hy => wu8_in hy) xs hx
  exact ⟨l, rfl, by rw [List.length_map] at hl; exact wlen_max hl, hq⟩
@[go_sem] def encW (n : Nat) : T := .lit (.int .u16 n)
@[go_sem] def encWs (l : List Nat) : T := .sl 1 (l.map encW)
theorem words_in {x : T} (h : InSh (.sl (.int .u16)) x) : ∃ l, x = encWs l ∧ l.length ≤ 9223372036854775807 ∧ ∀ c ∈ l, c < 65536 := by
  obtain ⟨xs, rfl, hl, hx⟩ := insh_sl h
  obtain ⟨l, rfl, hq⟩ := insh_list (en := encW) (Q := fun z => z < 65536) (fun y hy => wu16_in hy) xs hx
  exact ⟨l, rfl, by rw [List.length_map] at hl; exact wlen_max hl, hq⟩
theorem byteses_in {x : T} (h : InSh (.sl (.sl (.int .u8))) x) : ∃ l : List (List Nat), x = .sl 1 (l.map encUs) ∧ l.length ≤ 9223372036854775807 ∧ ∀ b ∈ l, b.length ≤ 9223372036854775807 ∧ ∀ c ∈ b, c < 256 := by
  obtain ⟨xs, rfl, hl, hx⟩ := insh_sl h
  obtain ⟨l, rfl, hq⟩ := insh_list (en := encUs) (Q := fun z => z.length ≤ 9223372036854775807 ∧ ∀ c ∈ z, c < 256) (fun y hy => bytes_in hy) xs hx
  exact ⟨l, rfl, by rw [List.length_map] at hl; exact wlen_max hl, hq⟩
end Go.Proofs.Ytopmmodcaoaaeaa
