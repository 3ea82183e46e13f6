/- The frame's functions as contracts: special, Stuff. No condition but lengths below 2^40. -/
import Derived.Test.YtnekjbmhmpfkgaaRows
import Derived.Test.YtnekjbmhmpfkgaaLib
import Derived.Test.YtnekjbmhmpfkgaaWirePlain
import Derived.Test.YtnekjbmhmpfkgaaElems
namespace Go.Proofs.Ytnekjbmhmpfkgaa
set_option linter.unusedVariables false
set_option linter.unusedSimpArgs false
open Go.RowKit



set_option maxHeartbeats 400000 in
theorem special_any (c : Nat) (w : World) :
    Calls Try.prog 24 #[.int .u8 (c : Int)] w fun e w' => e = .returned (.bool (Wire.spec c)) ∧ w = w' := by
  go_enter Try.func24, Try.ntmps24
  go_wp2
  all_goals
    go_ret
    refine ⟨ret_bool ?_, rfl⟩
    rw [Bool.eq_iff_iff]
    simp [Wire.spec]
    omega

set_option maxHeartbeats 400000 in
theorem stuff_any (x : Option Addr) (n cap : Nat) (bs : List Nat) (w : World) (hr : NRow .u8 w x n cap bs) (hb8 : ∀ c ∈ bs, c < 256) (hsm : n ≤ 1099511627776) :
    Calls Try.prog 13 #[.slice x n cap] w (Gives w 5 1 (nats .u8 (Wire.stuff bs))) := by
  have hn := hr.length
  go_enter Try.func13, Try.ntmps13
  go_wp2
  go_loopw [3, 9] (fun v i wr => ∃ (k : Nat) (x' : Option Addr) (m cap' : Nat), k ≤ n ∧ i = .int .i64 k ∧ v = .slice x' m cap' ∧ Own wr w.heap.size 5 1 x' m cap' (nats .u8 (126 :: Wire.body (bs.take k))) ∧ Below w.heap.size w wr) (fun _ i _ => n - (intOf i).toNat)
  case atStart => exact ⟨0, _, _, _, by omega, rfl, rfl, Own.lit1 _ _ _ (Nat.le_refl _), (Below.refl _ _).alloc (Nat.le_refl _) _⟩
  case round =>
    obtain ⟨k, x', m, cap', hk, rfl, rfl, ho, hb⟩ := hrel
    have hbl := Wire.body_length (bs.take k)
    have hm := ho.length
    rw [nats_length, List.length_cons] at hm
    rw [List.length_take] at hbl
    by_cases h : k < n
    · obtain ⟨b, off, rfl, hblt, hc⟩ := hr.pos (by omega)
      obtain ⟨c, hcg⟩ := has_get (l := bs) (k := k) (by omega)
      have hck := ((bcell hb).1 b (off + k) hblt).trans (hc k c hcg)
      have hc8 := hb8 c (mem_get hcg)
      have Hnew := Lib.hid (Wire.body_take hcg)
      have Hn := Lib.hid hn
      have hsz := hb.size
      clear hc hn hcg
      by_cases hs : Wire.spec c = true
      · have hx : bits BinOp.xor IntKind.u8 (c : Int) 32 = ((c ^^^ 32 : Nat) : Int) := u8_xor_nat c 32 hc8 (by omega)
        have Hx := Lib.hid hx
        have E := Lib.hid (show nats .u8 (126 :: Wire.body (bs.take (k + 1))) = nats .u8 (126 :: Wire.body (bs.take k)) ++ [.int .u8 125, .int .u8 ((c ^^^ 32 : Nat) : Int)] by rw [Hnew.out, Wire.esc_yes hs]; simp [nats])
        generalize c ^^^ 32 = c' at *
        go_wp2_with (first | (go_at_call 24; refine (special_any _ _).mono ?_; rintro e w' ⟨rfl, rfl⟩) | (at_builtin; refine wpList_app rfl _ _ 22 rfl elemU8 rfl (ho.alloc _) rfl (Own.lit2 _ _ _ _ (Nat.le_refl _)).row (two_oneCell _ _ _) (by omega) (maxLen_of (by omega)) (by simp; omega) ?_; intro x1 cap1 w1 ho1 hg1 hb1))
        go_roundw
        case rel => exact ⟨k + 1, _, _, _, by omega, by go_num, rfl, by rw [E.out]; exact ho1, (hb.alloc hsz _).trans hb1⟩
        case measure => simp [intOf]; omega
      · have hs' : Wire.spec c = false := by simpa using hs
        clear hs
        have E := Lib.hid (show nats .u8 (126 :: Wire.body (bs.take (k + 1))) = nats .u8 (126 :: Wire.body (bs.take k)) ++ [.int .u8 (c : Int)] by rw [Hnew.out, Wire.esc_no hs']; simp [nats])
        go_wp2_with (first | (go_at_call 24; refine (special_any _ _).mono ?_; rintro e w' ⟨rfl, rfl⟩) | (at_builtin; refine wpList_app rfl _ _ 22 rfl elemU8 rfl (ho.alloc _) rfl (Own.lit1 _ _ _ (Nat.le_refl _)).row (one_oneCell _ _) (by omega) (maxLen_of (by omega)) (by simp; omega) ?_; intro x1 cap1 w1 ho1 hg1 hb1))
        go_roundw
        case rel => exact ⟨k + 1, _, _, _, by omega, by go_num, rfl, by rw [E.out]; exact ho1, (hb.alloc hsz _).trans hb1⟩
        case measure => simp [intOf]; omega
    · have E := Lib.hid (show nats .u8 (Wire.stuff bs) = nats .u8 (126 :: Wire.body (bs.take k)) ++ [.int .u8 124] by rw [List.take_of_length_le (by omega)]; simp [nats, Wire.stuff])
      have hsz := hb.size
      have Hn := Lib.hid hn
      clear hn
      go_wp2_with (at_builtin; refine wpList_app rfl _ _ 22 rfl elemU8 rfl (ho.alloc _) rfl (Own.lit1 _ _ _ (Nat.le_refl _)).row (one_oneCell _ _) (by omega) (maxLen_of (by omega)) (by simp; omega) ?_; intro x1 cap1 w1 ho1 hg1 hb1)
      go_ret
      exact ⟨_, _, _, rfl, by rw [E.out]; exact ho1, (hb.alloc hsz _).trans hb1⟩
end Go.Proofs.Ytnekjbmhmpfkgaa
