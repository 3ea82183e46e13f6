/- Int as a contract: it reads the number that is encoded at an index. The length is below 2^40. -/
import Derived.Test.YtnekjbmhmpfkgaaRows
import Derived.Test.YtnekjbmhmpfkgaaLib
import Derived.Test.YtnekjbmhmpfkgaaElems
import Derived.Test.YtnekjbmhmpfkgaaIntPlain
namespace Go.Proofs.Ytnekjbmhmpfkgaa
set_option linter.unusedVariables false
set_option linter.unusedSimpArgs false
open Go.RowKit

def Trip (r : Int × Int × Int) : Value := .tuple #[.int .i64 r.1, .int .i64 r.2.1, .int .i64 r.2.2]

theorem or_walk {q c k : Nat} (hk : k < 10) (hq : q < 2 ^ (7 * k)) (hc : c < 256) :
    bits BinOp.or IntKind.u64 (q : Int) (IntKind.u64.wrap (IntKind.u64.wrap (bits BinOp.and IntKind.u8 (c : Int) 127) * 2 ^ (7 * k))) = (((q + c % 128 * 2 ^ (7 * k)) % 18446744073709551616 : Nat) : Int) := by
  have e0 : ∀ n : Int, IntKind.u64.wrap n = n % 18446744073709551616 := fun n => by simp [IntKind.wrap, IntKind.bits, IntKind.signed]
  have h1 : bits BinOp.and IntKind.u8 (c : Int) 127 = ((c % 128 : Nat) : Int) := by
    have := u8_and_nat c 127 hc (by omega)
    rw [nat_mask7] at this
    exact this
  have hp : (2 : Int) ^ (7 * k) = ((2 ^ (7 * k) : Nat) : Int) := by simp
  have h0 : ((c % 128 : Nat) : Int) % 18446744073709551616 = ((c % 128 : Nat) : Int) := by omega
  rw [h1, e0, e0, hp, h0, ← Int.natCast_mul]
  have h2 : ((c % 128 * 2 ^ (7 * k) : Nat) : Int) % 18446744073709551616 = ((c % 128 * 2 ^ (7 * k) % 18446744073709551616 : Nat) : Int) := by omega
  have hq64 : q < 18446744073709551616 := by
    have : 2 ^ (7 * k) ≤ 2 ^ 63 := Nat.pow_le_pow_right (by omega) (by omega)
    omega
  rw [h2, u64_or_nat _ _ hq64 (by omega)]
  congr 1
  have h3 : c % 128 * 2 ^ (7 * k) % 18446744073709551616 % 2 ^ (7 * k) = 0 := by
    rw [show (18446744073709551616 : Nat) = 2 ^ (7 * k) * 2 ^ (64 - 7 * k) by rw [← Nat.pow_add, show 7 * k + (64 - 7 * k) = 64 by omega], Nat.mod_mul_right_mod, Nat.mul_mod_left]
  rw [Nat.or_comm, nat_join (7 * k) _ _ h3 hq]
  rw [Nat.add_comm]
  have h4 : q + c % 128 * 2 ^ (7 * k) % 18446744073709551616 < 18446744073709551616 := by
    rw [Nat.add_comm, ← nat_join (7 * k) _ _ h3 hq]
    exact Nat.or_lt_two_pow (n := 64) (by omega) (by omega)
  omega

theorem xor_zero64 {q : Nat} (hq : q < 9223372036854775808) : bits BinOp.xor IntKind.i64 (q : Int) 0 = (q : Int) := by
  have e0 : ∀ n : Int, IntKind.i64.wrap n = (n + 9223372036854775808) % 18446744073709551616 - 9223372036854775808 := IntKind.wrap_i64
  have e1 : (BitVec.ofInt 64 (q : Int) ^^^ BitVec.ofInt 64 0).toNat = q := by
    rw [show BitVec.ofInt 64 0 = 0#64 by decide, BitVec.xor_zero, BitVec.ofInt_natCast, BitVec.toNat_ofNat, Nat.mod_eq_of_lt (by omega)]
  show IntKind.i64.wrap ((BitVec.ofInt 64 (q : Int) ^^^ BitVec.ofInt 64 0).toNat : Int) = q
  rw [e0, e1]
  omega
theorem xor_neg64 {q : Nat} (hq : q < 9223372036854775808) : bits BinOp.xor IntKind.i64 (q : Int) (-1) = -(q : Int) - 1 := by
  have e0 : ∀ n : Int, IntKind.i64.wrap n = (n + 9223372036854775808) % 18446744073709551616 - 9223372036854775808 := IntKind.wrap_i64
  have e1 : (BitVec.ofInt 64 (q : Int) ^^^ BitVec.ofInt 64 (-1)).toNat = 18446744073709551615 - q := by
    rw [show BitVec.ofInt 64 (-1) = BitVec.allOnes 64 by decide, BitVec.xor_allOnes, BitVec.toNat_not, BitVec.ofInt_natCast, BitVec.toNat_ofNat, Nat.mod_eq_of_lt (by omega)]
  show IntKind.i64.wrap ((BitVec.ofInt 64 (q : Int) ^^^ BitVec.ofInt 64 (-1)).toNat : Int) = _
  rw [e0, e1]
  omega

theorem trip_ret {a b c a' b' c' : Int} (h1 : a' = a) (h2 : b' = b) (h3 : c' = c) : Ending.returned (.tuple #[.int .i64 a', .int .i64 b', .int .i64 c']) = .returned (Trip (a, b, c)) := by
  rw [h1, h2, h3]; rfl

theorem unfold_walk {q : Nat} (hq : q < 18446744073709551616) :
    bits BinOp.xor IntKind.i64 (wrap64 ((q : Int) / 2)) (wrap64 (-wrap64 (bits BinOp.and IntKind.u64 (q : Int) 1))) = Wire.unfold_ q := by
  have h1 : bits BinOp.and IntKind.u64 (q : Int) 1 = ((q % 2 : Nat) : Int) := by
    have := u64_and_nat q 1 hq (by omega)
    rw [nat_mask1] at this
    exact this
  rw [h1]
  have h2 : wrap64 ((q : Int) / 2) = ((q / 2 : Nat) : Int) := by unfold wrap64; omega
  rw [h2]
  unfold Wire.unfold_
  split
  · rename_i h
    rw [show wrap64 (-wrap64 ((q % 2 : Nat) : Int)) = 0 by rw [h]; unfold wrap64; omega]
    exact xor_zero64 (by omega)
  · rename_i h
    rw [show q % 2 = 1 by omega, show wrap64 (-wrap64 ((1 : Nat) : Int)) = -1 by unfold wrap64; omega]
    exact xor_neg64 (by omega)

set_option maxRecDepth 100000 in
set_option maxHeartbeats 400000 in
theorem int_any (x : Option Addr) (n cap : Nat) (bs : List Nat) (z : Int) (w : World) (hr : NRow .u8 w x n cap bs) (hb8 : ∀ c ∈ bs, c < 256) (hsm : n ≤ 1099511627776) :
    Calls Try.prog 12 #[.slice x n cap, .int .i64 z] w fun e w' => e = .returned (Trip (Wire.getI bs z)) ∧ w = w' := by
  have hn := hr.length
  have hnc := hr.le
  have hmax := hr.capLe
  unfold maxLen at hmax
  by_cases hz : z < 0 ∨ (n : Int) < z
  · have R : Hid (Wire.getI bs z = (0, 0, 1)) := by unfold Hid Wire.getI; rw [if_pos (by omega)]
    go_enter Try.func12, Try.ntmps12
    go_wp2
    all_goals
      first
      | (exfalso; omega)
      | (go_ret3; exact ⟨by rw [R.out]; exact trip_ret rfl rfl rfl, rfl⟩)
  · obtain ⟨at_, rfl⟩ := Int.eq_ofNat_of_zero_le (show 0 ≤ z by omega)
    have hat : at_ ≤ n := by omega
    clear hz
    have Hn := Lib.hid hn
    clear hn
    go_enter Try.func12, Try.ntmps12
    go_wp2
    go_loop [7, 18] (fun u i => ∃ (k q : Nat), k ≤ 10 ∧ i = .int .i64 (k : Int) ∧ u = .int .u64 (q : Int) ∧ (k < 10 → q < 2 ^ (7 * k)) ∧ Wire.scan (bs.drop (at_ + k)) k q = Wire.scan (bs.drop at_) 0 0) (fun _ i => 10 - (intOf i).toNat)
    case atStart => exact ⟨0, 0, by omega, rfl, rfl, by omega, rfl⟩
    case round =>
      obtain ⟨k, q, hk, rfl, rfl, hq, hs⟩ := hrel
      have Hq := Lib.hid hq
      have Hs := Lib.hid hs
      clear hq hs
      by_cases h10 : k < 10
      · by_cases hin : at_ + k < n
        · obtain ⟨b, off, rfl, hblt, hc⟩ := hr.pos (by omega)
          obtain ⟨c, hcg⟩ := has_get (l := bs) (k := at_ + k) (by rw [Hn.out]; exact hin)
          have hck := hc (at_ + k) c hcg
          have hc8 := hb8 c (mem_get hcg)
          have Hcg := Lib.hid hcg
          clear hc hcg
          have hor := or_walk h10 (Hq.out h10) hc8
          have hstep := Lib.hid (fun h9 : k < 9 => Wire.step_lt (c := c) h9 (Hq.out h10))
          have Hd := Lib.hid (show bs.drop (at_ + k) = c :: bs.drop (at_ + k + 1) from drop_get Hcg.out)
          have hqlt : Hid ((q + c % 128 * 2 ^ (7 * k)) % 18446744073709551616 < 18446744073709551616) := Nat.mod_lt _ (by omega)
          by_cases hbig : 128 ≤ c
          · have R := Lib.hid (show Wire.scan (bs.drop (at_ + (k + 1))) (k + 1) ((q + c % 128 * 2 ^ (7 * k)) % 18446744073709551616) = Wire.scan (bs.drop at_) 0 0 by rw [← Hs.out, Hd.out, Wire.scan_more h10 hbig]; rfl)
            generalize (q + c % 128 * 2 ^ (7 * k)) % 18446744073709551616 = q' at *
            go_wp2
            go_round
            case rel => exact ⟨k + 1, q', by omega, by go_num, rfl, fun h => hstep.out (by omega), R.out⟩
            case measure => simp [intOf]; omega
          · by_cases hbad : (k = 9 ∧ 1 < c) ∨ (0 < k ∧ c = 0)
            · have R := Lib.hid (show Wire.getI bs (at_ : Int) = (0, 0, 3) by
                unfold Wire.getI
                rw [if_neg (by rw [Hn.out]; omega)]
                simp only [Int.toNat_natCast]
                rw [← Hs.out, Hd.out, Wire.scan_bad h10 (by omega) hbad]
                rfl)
              generalize (q + c % 128 * 2 ^ (7 * k)) % 18446744073709551616 = q' at *
              rcases hbad with ⟨ha, hb⟩ | ⟨ha, hb⟩
              · have ha2 : ((k : Int) == 9) = true := by simp; omega
                have ha1 := Lib.hid ha
                clear ha
                go_wp2
                go_ret3
                exact ⟨by rw [R.out]; exact trip_ret rfl rfl rfl, rfl⟩
              · have hb2 : ((c : Int) == 0) = true := by simp; omega
                have hb1 := Lib.hid hb
                have hc1 : c ≤ 0 := by omega
                clear hb
                go_wp2
                all_goals (go_ret3; exact ⟨by rw [R.out]; exact trip_ret rfl rfl rfl, rfl⟩)
            · have R := Lib.hid (show Wire.getI bs (at_ : Int) = (Wire.unfold_ ((q + c % 128 * 2 ^ (7 * k)) % 18446744073709551616), (at_ : Int) + ((k + 1 : Nat) : Int), 0) by
                unfold Wire.getI
                rw [if_neg (by rw [Hn.out]; omega)]
                simp only [Int.toNat_natCast]
                rw [← Hs.out, Hd.out, Wire.scan_good h10 (by omega) hbad]
                rfl)
              generalize (q + c % 128 * 2 ^ (7 * k)) % 18446744073709551616 = q' at *
              have U := Lib.hid (unfold_walk hqlt.out)
              by_cases h9 : k = 9
              · have ha2 : ((k : Int) == 9) = true := by simp; omega
                have hc1 : c ≤ 1 := by omega
                have hc2 : ((c : Int) == 0) = false := by simp; omega
                have hk0 : 0 < k := by omega
                clear h9 hbad
                go_wp2
                go_ret3
                exact ⟨by rw [R.out]; exact trip_ret U.out (by omega) rfl, rfl⟩
              · have ha2 : ((k : Int) == 9) = false := by simp; omega
                have h9' : k < 9 := by omega
                by_cases hk0 : 0 < k
                · have hc2 : ((c : Int) == 0) = false := by simp; omega
                  clear h9 hbad
                  go_wp2
                  go_ret3
                  exact ⟨by rw [R.out]; exact trip_ret U.out (by omega) rfl, rfl⟩
                · clear h9 hbad
                  go_wp2
                  go_ret3
                  exact ⟨by rw [R.out]; exact trip_ret U.out (by omega) rfl, rfl⟩
        · have R := Lib.hid (show Wire.getI bs (at_ : Int) = (0, 0, 2) by
            unfold Wire.getI
            rw [if_neg (by rw [Hn.out]; omega)]
            simp only [Int.toNat_natCast]
            rw [← Hs.out, List.drop_eq_nil_of_le (by rw [Hn.out]; omega), Wire.scan, if_pos h10]
            rfl)
          go_wp2
          go_ret3
          exact ⟨by rw [R.out]; exact trip_ret rfl rfl rfl, rfl⟩
      · have R := Lib.hid (show Wire.getI bs (at_ : Int) = (0, 0, 3) by
          unfold Wire.getI
          rw [if_neg (by rw [Hn.out]; omega)]
          simp only [Int.toNat_natCast]
          rw [← Hs.out, Wire.scan_ten h10]
          rfl)
        go_wp2
        go_ret3
        exact ⟨by rw [R.out]; exact trip_ret rfl rfl rfl, rfl⟩
end Go.Proofs.Ytnekjbmhmpfkgaa
