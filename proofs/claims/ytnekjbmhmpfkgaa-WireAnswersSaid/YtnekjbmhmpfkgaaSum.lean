/- The checksum's function as a contract: it returns the CRC-32 of the bytes. No condition on the bytes. -/
import Derived.Test.YtnekjbmhmpfkgaaRows
import Derived.Test.YtnekjbmhmpfkgaaLib
import Derived.Test.YtnekjbmhmpfkgaaCrcPlain
namespace Go.Proofs.Ytnekjbmhmpfkgaa
set_option linter.unusedVariables false
set_option linter.unusedSimpArgs false
open Go.RowKit

def zeros : Array Value := Array.replicate 256 (.int .u32 0)
theorem zeros_size : zeros.size = 256 := by simp [zeros]
theorem zero_table (w : World) : (zeroValue 47).run Try.prog w = .ok (.agg zeros) w := by kernel_rfl

theorem bit_walk {n : Nat} (h : n < 4294967296) :
    bits BinOp.xor IntKind.u32 ((n : Int) / 2) (3988292384 * bits BinOp.and IntKind.u32 (n : Int) 1 % 4294967296) = ((Crc.bit n : Nat) : Int) := by
  have h1 := u32_and_nat n 1 h (by omega)
  have h2 : bits BinOp.and IntKind.u32 (n : Int) 1 = ((n &&& 1 : Nat) : Int) := h1
  rw [h2]
  have h3 : (n : Int) / 2 = ((n / 2 : Nat) : Int) := by omega
  have h4 : (3988292384 * ((n &&& 1 : Nat) : Int) % 4294967296) = ((3988292384 * (n &&& 1) % 4294967296 : Nat) : Int) := by omega
  rw [h3, h4, u32_xor_nat _ _ (by omega) (by omega)]
  rfl

theorem not_nat {st : Nat} (h : st < 4294967296) : 4294967295 ^^^ st = 4294967295 - st := by
  have h1 : (BitVec.allOnes 32 ^^^ BitVec.ofNat 32 st).toNat = (~~~ BitVec.ofNat 32 st).toNat := by rw [BitVec.allOnes_xor]
  rw [BitVec.toNat_xor, BitVec.toNat_not, BitVec.toNat_ofNat, BitVec.toNat_allOnes, Nat.mod_eq_of_lt (by omega)] at h1
  exact h1
theorem not_u32 {st : Nat} (h : st < 4294967296) : bits BinOp.xor IntKind.u32 IntKind.u32.max (st : Int) = ((4294967295 - st : Nat) : Int) := by
  have h1 : IntKind.u32.max = ((4294967295 : Nat) : Int) := by decide
  rw [h1, u32_xor_nat _ _ (by omega) h, not_nat h]

/-- The table up to place k. -/
def TabTo (k : Nat) (cur : Array Value) : Prop := cur.size = 256 ∧ ∀ j, j < k → cur[j]? = some (.int .u32 ((Crc.tab j : Nat) : Int))

theorem tabTo_set {k : Nat} {cur : Array Value} (h : TabTo k cur) (hk : k < 256) : TabTo (k + 1) (cur.setIfInBounds k (.int .u32 ((Crc.tab k : Nat) : Int))) := by
  refine ⟨by simp [h.1], fun j hj => ?_⟩
  by_cases e : k = j
  · subst e
    simp [h.1, hk]
  · rw [Array.getElem?_setIfInBounds_ne e]
    exact h.2 j (by omega)

set_option maxRecDepth 100000 in
set_option maxHeartbeats 400000 in
theorem sum_any (x : Option Addr) (n cap : Nat) (bs : List Nat) (w : World) (hr : NRow .u8 w x n cap bs) (hb8 : ∀ c ∈ bs, c < 256) :
    Calls Try.prog 10 #[.slice x n cap] w fun e w' => e = .returned (.int .u32 ((Crc.sum bs : Nat) : Int)) ∧ Below w.heap.size w w' := by
  have hn := hr.length
  have hnc := hr.le
  have hmax := hr.capLe
  unfold maxLen at hmax
  have hal := zero_table w
  go_enter Try.func10, Try.ntmps10
  go_wp2
  clear hal
  go_loopw [9] (fun t wr => ∃ (k : Nat) (cur : Array Value), k ≤ 256 ∧ t = .int .i64 k ∧ TabTo k cur ∧ wr = w.alloc (.cells cur 47)) (fun t _ => 256 - (intOf t).toNat)
  case atStart => exact ⟨0, zeros, by omega, rfl, ⟨zeros_size, by omega⟩, rfl⟩
  case round =>
    obtain ⟨k, cur, hk, rfl, htab, rfl⟩ := hrel
    by_cases h : k < 256
    · go_wp2
      go_loop [5, 14] (fun x t => ∃ (j : Nat), j ≤ 8 ∧ t = .int .i64 j ∧ x = .int .u32 ((Crc.bitsN j k : Nat) : Int)) (fun _ t => 8 - (intOf t).toNat)
      case atStart => exact ⟨0, by omega, rfl, rfl⟩
      case round =>
        obtain ⟨j, hj, rfl, rfl⟩ := hrel
        have hlt := Crc.bitsN_lt (x := k) (by omega) j
        by_cases h : j < 8
        · go_wp2
          go_round
          case rel => exact ⟨j + 1, by omega, by go_num, by rw [bit_walk hlt]; rfl⟩
          case measure => simp [intOf]; omega
        · obtain rfl : j = 8 := by omega
          obtain ⟨old, hold⟩ : ∃ old, cur[k]? = some old := ⟨_, Array.getElem?_eq_getElem (by rw [htab.1]; exact ‹k < 256›)⟩
          go_wp2
          go_roundw
          case rel => exact ⟨k + 1, _, by omega, by go_num, tabTo_set htab ‹_›, rfl⟩
          case measure => simp [intOf]; omega
    · obtain rfl : k = 256 := by omega
      go_wp2
      go_loop [6, 29] (fun t i => ∃ k : Nat, k ≤ n ∧ i = .int .i64 k ∧ t = .int .u32 (((bs.take k).foldl Crc.upd 4294967295 : Nat) : Int)) (fun _ i => n - (intOf i).toNat)
      case atStart => exact ⟨0, by omega, rfl, rfl⟩
      case round =>
        obtain ⟨k, hk, rfl, rfl⟩ := hrel
        have hlt := Crc.fold_lt (bs.take k) 4294967295 (by omega) (fun c hc => hb8 c (List.mem_of_mem_take hc))
        generalize hst : (bs.take k).foldl Crc.upd 4294967295 = st at *
        by_cases h : k < n
        · obtain ⟨b, off, rfl, hbl, hc⟩ := hr.pos (by omega)
          have hck := hc k bs[k] (List.getElem?_eq_getElem (by omega))
          have hc8 : bs[k] < 256 := hb8 _ (List.getElem_mem _)
          have Hst := Lib.hid hst
          have Hnew : Hid ((bs.take (k + 1)).foldl Crc.upd 4294967295 = Crc.upd st bs[k]) := by
            unfold Hid; rw [List.take_succ_eq_append_getElem (by omega), List.foldl_append, hst]; rfl
          clear hst hc
          generalize bs[k] = c at *
          have hi8 := Crc.idx_lt (x := st) hc8
          have hupd : Hid (Crc.upd st c = Crc.tab ((st % 256) ^^^ c) ^^^ (st / 256)) := Lib.hid rfl
          have hx : bits BinOp.xor IntKind.u8 ((st : Int) % 256) (c : Int) = (((st % 256) ^^^ c : Nat) : Int) := u8_xor_nat (st % 256) c (by omega) hc8
          generalize hidx : (st % 256) ^^^ c = idx at *
          have Hidx := Lib.hid hidx
          clear hidx
          have hcur : cur[idx]? = some (.int .u32 ((Crc.tab idx : Nat) : Int)) := htab.2 idx hi8
          have htl := Crc.tab_lt hi8
          have hfin : bits BinOp.xor IntKind.u32 ((Crc.tab idx : Nat) : Int) ((st : Int) / 256) = ((Crc.tab idx ^^^ (st / 256) : Nat) : Int) :=
            u32_xor_nat (Crc.tab idx) (st / 256) htl (by omega)
          generalize hres : Crc.tab idx ^^^ (st / 256) = res at *
          have Hres := Lib.hid hres
          clear hres
          go_wp2
          go_round
          case rel => exact ⟨k + 1, by omega, by go_num, by rw [Hnew.out, hupd.out]⟩
          case measure => simp [intOf]; omega
        · obtain rfl : k = n := by omega
          have Hst : Hid (bs.foldl Crc.upd 4294967295 = st) := by unfold Hid; rw [← hst, List.take_of_length_le (by omega)]
          clear hst
          go_wp2
          go_ret
          refine ⟨ret_int ?_, (Below.refl _ _).alloc (Nat.le_refl _) _⟩
          unfold Crc.sum Crc.run
          rw [Hst.out]
          exact not_u32 hlt
end Go.Proofs.Ytnekjbmhmpfkgaa
