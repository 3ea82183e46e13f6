/- PutInt as a contract: it appends the encoding of a number to a copy of the bytes. No condition but lengths below 2^40. -/
import Derived.Test.YtnekjbmhmpfkgaaRows
import Derived.Test.YtnekjbmhmpfkgaaLib
import Derived.Test.YtnekjbmhmpfkgaaElems
import Derived.Test.YtnekjbmhmpfkgaaIntPlain
namespace Go.Proofs.Ytnekjbmhmpfkgaa
set_option linter.unusedVariables false
set_option linter.unusedSimpArgs false
open Go.RowKit

theorem fold_walk {z : Int} (h1 : -9223372036854775808 ≤ z) (h2 : z ≤ 9223372036854775807) :
    bits BinOp.xor IntKind.u64 (IntKind.u64.wrap (IntKind.u64.wrap z * 2)) (IntKind.u64.wrap (z / 9223372036854775808)) = ((Wire.fold z : Nat) : Int) := by
  unfold Wire.fold
  have e0 : ∀ n : Int, IntKind.u64.wrap n = n % 18446744073709551616 := fun n => by simp [IntKind.wrap, IntKind.bits, IntKind.signed]
  simp only [e0]
  split
  · have e1 : z % 18446744073709551616 * 2 % 18446744073709551616 = ((z.toNat * 2 : Nat) : Int) := by omega
    have e2 : z / 9223372036854775808 % 18446744073709551616 = ((0 : Nat) : Int) := by omega
    rw [e1, e2, u64_xor_nat _ _ (by omega) (by omega)]
    simp
  · have e1 : z % 18446744073709551616 * 2 % 18446744073709551616 = ((18446744073709551615 - ((-(z + 1)).toNat * 2 + 1) : Nat) : Int) := by omega
    have e2 : z / 9223372036854775808 % 18446744073709551616 = ((18446744073709551615 : Nat) : Int) := by omega
    rw [e1, e2, u64_xor_nat _ _ (by omega) (by omega)]
    generalize hq : (-(z + 1)).toNat * 2 + 1 = q
    have hq2 : q < 18446744073709551616 := by omega
    congr 1
    rw [Nat.xor_comm]
    have h3 := not_nat64 (st := 18446744073709551615 - q) (by omega)
    rw [h3]
    omega

set_option maxRecDepth 100000 in
set_option maxHeartbeats 400000 in
theorem put_any (x : Option Addr) (n cap : Nat) (bs : List Nat) (z : Int) (w : World) (hr : NRow .u8 w x n cap bs) (hsm : n ≤ 1099511627776) (h1 : -9223372036854775808 ≤ z) (h2 : z ≤ 9223372036854775807) :
    Calls Try.prog 11 #[.slice x n cap, .int .i64 z] w (Gives w 5 1 (nats .u8 (bs ++ Wire.put (Wire.fold z)))) := by
  have hn := hr.length
  have hf := fold_walk h1 h2
  have hlt := Wire.fold_lt h1 h2
  generalize Wire.fold z = u0 at *
  have Hn := Lib.hid hn
  have hlen : (Wire.put u0).length ≤ 10 := Wire.put_len10 hlt
  clear hn
  go_enter Try.func11, Try.ntmps11
  go_wp2_with (at_builtin; refine wpList_app rfl _ _ 22 rfl elemU8 rfl (B := w.heap.size) Own.none rfl hr (nats_oneCell _ _) (by omega) (maxLen_of (by omega)) (Nat.le_refl _) ?_; intro x1 cap1 w1 ho1 hg1 hb1)
  clear hf hg1 hlt h1 h2
  simp only [List.nil_append, Nat.zero_add] at ho1
  go_loopw [5, 6] (fun u v wr => ∃ (q : Nat) (dn : List Nat) (x' : Option Addr) (m cap' : Nat), u = .int .u64 (q : Int) ∧ q ≤ u0 ∧ Wire.put u0 = dn ++ Wire.put q ∧ v = .slice x' m cap' ∧ Own wr w.heap.size 5 1 x' m cap' (nats .u8 (bs ++ dn)) ∧ Below w.heap.size w wr) (fun u _ _ => (intOf u).toNat)
  case atStart => exact ⟨u0, [], _, _, _, by go_num, Nat.le_refl _, rfl, rfl, by simpa using ho1, hb1⟩
  case round =>
    obtain ⟨q, dn, x', m, cap', rfl, hq, hdn, rfl, ho, hb⟩ := hrel
    have hm := ho.length
    have hsz := hb.size
    have hl2 := congrArg List.length hdn
    have hp := Wire.put_pos q
    rw [nats_length, List.length_append, Hn.out] at hm
    rw [List.length_append] at hl2
    have Hdn := Lib.hid hdn
    clear hdn
    have hm2 : m ≤ 1099511627800 := by omega
    have Hm := Lib.hid hm
    have Hl2 := Lib.hid hl2
    clear hm hl2
    by_cases h : 128 ≤ q
    · have hor : bits BinOp.or IntKind.u8 ((q : Int) % 256) 128 = ((q % 128 + 128 : Nat) : Int) := by
        have h3 := u8_or_nat (q % 256) 128 (by omega) (by omega)
        have h4 := Wire.or128 (q % 256) (by omega)
        rw [h4] at h3
        have h5 : q % 256 % 128 = q % 128 := by omega
        rw [h5] at h3
        exact h3
      have E := Lib.hid (show nats .u8 (bs ++ (dn ++ [q % 128 + 128])) = nats .u8 (bs ++ dn) ++ [.int .u8 ((q % 128 + 128 : Nat) : Int)] by simp [nats])
      have F := Lib.hid (show Wire.put u0 = (dn ++ [q % 128 + 128]) ++ Wire.put (q / 128) by rw [Hdn.out, Wire.put_big h]; simp)
      generalize q % 128 + 128 = c' at *
      go_wp2_with (at_builtin; refine wpList_app rfl _ _ 22 rfl elemU8 rfl (ho.alloc _) rfl (Own.lit1 _ _ _ (Nat.le_refl _)).row (one_oneCell _ _) (by omega) (maxLen_of (by omega)) (by simp; omega) ?_; intro x1 cap1 w1 ho1 hg1 hb1)
      go_roundw
      case rel => exact ⟨q / 128, _, _, _, _, by go_num, by omega, F.out, rfl, by rw [E.out]; exact ho1, (hb.alloc hsz _).trans hb1⟩
      case measure => simp [intOf]; omega
    · have E := Lib.hid (show nats .u8 (bs ++ Wire.put u0) = nats .u8 (bs ++ dn) ++ [.int .u8 (q : Int)] by rw [Hdn.out, Wire.put_small (by omega)]; simp [nats])
      go_wp2_with (at_builtin; refine wpList_app rfl _ _ 22 rfl elemU8 rfl (ho.alloc _) rfl (Own.lit1 _ _ _ (Nat.le_refl _)).row (one_oneCell _ _) (by omega) (maxLen_of (by omega)) (by simp; omega) ?_; intro x1 cap1 w1 ho1 hg1 hb1)
      go_ret
      exact ⟨_, _, _, rfl, by rw [E.out]; exact ho1, (hb.alloc hsz _).trans hb1⟩
end Go.Proofs.Ytnekjbmhmpfkgaa
