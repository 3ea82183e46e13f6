/- Shifts and bits of the wire's numbers, as the walks meet them. No condition. -/
import Derived.Test.YtopmmodcaoaaeaaLib
import Derived.Test.YtopmmodcaoaaeaaIntPlain
namespace Go.Proofs.Ytopmmodcaoaaeaa
set_option linter.unusedVariables false
set_option linter.unusedSimpArgs false
open Go.RowKit
theorem u64_wrap (n : Int) : IntKind.u64.wrap n = n % 18446744073709551616 := by simp [IntKind.wrap, IntKind.bits, IntKind.signed]
theorem u8_wrap (n : Int) : IntKind.u8.wrap n = n % 256 := by simp [IntKind.wrap, IntKind.bits, IntKind.signed]
theorem u32_wrap (n : Int) : IntKind.u32.wrap n = n % 4294967296 := by simp [IntKind.wrap, IntKind.bits, IntKind.signed]
theorem fold_pos {z : Int} (h : 0 ≤ z) (h2 : z ≤ 9223372036854775807) : bits BinOp.xor IntKind.u64 (z * 2) (z / 9223372036854775808) = ((Wire.fold z : Nat) : Int) := by
  unfold Wire.fold
  rw [if_pos h]
  have e1 : z * 2 = ((z.toNat * 2 : Nat) : Int) := by omega
  have e2 : z / 9223372036854775808 = ((0 : Nat) : Int) := by omega
  rw [e1, e2, u64_xor_nat _ _ (by omega) (by omega)]
  simp
theorem fold_neg {z : Int} (h : z < 0) (h2 : -9223372036854775808 ≤ z) : bits BinOp.xor IntKind.u64 (2 * z + 18446744073709551616) 18446744073709551615 = ((Wire.fold z : Nat) : Int) := by
  unfold Wire.fold
  rw [if_neg (by omega)]
  have e1 : 2 * z + 18446744073709551616 = ((18446744073709551615 - ((-(z + 1)).toNat * 2 + 1) : Nat) : Int) := by omega
  have e2 : (18446744073709551615 : Int) = ((18446744073709551615 : Nat) : Int) := by omega
  rw [e1, e2, u64_xor_nat _ _ (by omega) (by omega)]
  generalize hq : (-(z + 1)).toNat * 2 + 1 = q
  have hq2 : q < 18446744073709551616 := by omega
  congr 1
  rw [Nat.xor_comm]
  have h3 := not_nat64 (st := 18446744073709551615 - q) (by omega)
  rw [h3]
  omega
theorem or_128 {c : Nat} (h : c < 256) : bits BinOp.or IntKind.u8 (c : Int) 128 = ((c % 128 + 128 : Nat) : Int) := by
  have := u8_or_nat c 128 h (by omega)
  rw [Wire.or128 c h] at this
  exact this
theorem and_127 {c : Nat} (h : c < 256) : bits BinOp.and IntKind.u8 (c : Int) 127 = ((c % 128 : Nat) : Int) := by
  have := u8_and_nat c 127 h (by omega)
  rw [nat_mask7] at this
  exact this
theorem shl_join {q c k : Nat} (hk : k < 10) (hq : q < 2 ^ (7 * k)) (hc : c < 256) :
    bits BinOp.or IntKind.u64 (q : Int) (((c % 128 : Nat) : Int) * 2 ^ (7 * k) % 18446744073709551616) = (((q + c % 128 * 2 ^ (7 * k)) % 18446744073709551616 : Nat) : Int) := by
  have hp : (2 : Int) ^ (7 * k) = ((2 ^ (7 * k) : Nat) : Int) := by simp
  rw [hp, ← Int.natCast_mul]
  have h2 : ((c % 128 * 2 ^ (7 * k) : Nat) : Int) % 18446744073709551616 = ((c % 128 * 2 ^ (7 * k) % 18446744073709551616 : Nat) : Int) := by omega
  have hq64 : q < 18446744073709551616 := by
    have : 2 ^ (7 * k) ≤ 2 ^ 63 := Nat.pow_le_pow_right (by omega) (by omega)
    omega
  rw [h2, u64_or_nat _ _ hq64 (by omega)]
  congr 1
  have h3 : c % 128 * 2 ^ (7 * k) % 18446744073709551616 % 2 ^ (7 * k) = 0 := by
    rw [show (18446744073709551616 : Nat) = 2 ^ (7 * k) * 2 ^ (64 - 7 * k) by rw [← Nat.pow_add, show 7 * k + (64 - 7 * k) = 64 by omega], Nat.mod_mul_right_mod, Nat.mul_mod_left]
  rw [Nat.or_comm, nat_join (7 * k) _ _ h3 hq]
  rw [Nat.add_comm]
  have h4 : q + c % 128 * 2 ^ (7 * k) % 18446744073709551616 < 18446744073709551616 := by
    rw [Nat.add_comm, ← nat_join (7 * k) _ _ h3 hq]
    exact Nat.or_lt_two_pow (n := 64) (by omega) (by omega)
  omega
theorem xor_zero64 {q : Nat} (hq : q < 9223372036854775808) : bits BinOp.xor IntKind.i64 (q : Int) 0 = (q : Int) := by
  have e0 : ∀ n : Int, IntKind.i64.wrap n = (n + 9223372036854775808) % 18446744073709551616 - 9223372036854775808 := IntKind.wrap_i64
  have e1 : (BitVec.ofInt 64 (q : Int) ^^^ BitVec.ofInt 64 0).toNat = q := by
    rw [show BitVec.ofInt 64 0 = 0#64 by decide, BitVec.xor_zero, BitVec.ofInt_natCast, BitVec.toNat_ofNat, Nat.mod_eq_of_lt (by omega)]
  show IntKind.i64.wrap ((BitVec.ofInt 64 (q : Int) ^^^ BitVec.ofInt 64 0).toNat : Int) = q
  rw [e0, e1]
  omega
theorem xor_neg64 {q : Nat} (hq : q < 9223372036854775808) : bits BinOp.xor IntKind.i64 (q : Int) (-1) = -(q : Int) - 1 := by
  have e0 : ∀ n : Int, IntKind.i64.wrap n = (n + 9223372036854775808) % 18446744073709551616 - 9223372036854775808 := IntKind.wrap_i64
  have e1 : (BitVec.ofInt 64 (q : Int) ^^^ BitVec.ofInt 64 (-1)).toNat = 18446744073709551615 - q := by
    rw [show BitVec.ofInt 64 (-1) = BitVec.allOnes 64 by decide, BitVec.xor_allOnes, BitVec.toNat_not, BitVec.ofInt_natCast, BitVec.toNat_ofNat, Nat.mod_eq_of_lt (by omega)]
  show IntKind.i64.wrap ((BitVec.ofInt 64 (q : Int) ^^^ BitVec.ofInt 64 (-1)).toNat : Int) = _
  rw [e0, e1]
  omega
theorem and_1 {q : Nat} (hq : q < 18446744073709551616) : bits BinOp.and IntKind.u64 (q : Int) 1 = ((q % 2 : Nat) : Int) := by
  have := u64_and_nat q 1 hq (by omega)
  rw [nat_mask1] at this
  exact this
theorem unfold_bits {q : Nat} (hq : q < 18446744073709551616) : bits BinOp.xor IntKind.i64 ((q : Int) / 2) (-((q : Int) % 2)) = Wire.unfold_ q := by
  have h2 : (q : Int) / 2 = ((q / 2 : Nat) : Int) := by omega
  rw [h2]
  unfold Wire.unfold_
  split
  · rename_i h
    rw [show -((q : Int) % 2) = 0 by omega]
    exact xor_zero64 (by omega)
  · rename_i h
    rw [show -((q : Int) % 2) = -1 by omega]
    exact xor_neg64 (by omega)
end Go.Proofs.Ytopmmodcaoaaeaa
