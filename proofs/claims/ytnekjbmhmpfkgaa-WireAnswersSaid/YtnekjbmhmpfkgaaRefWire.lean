/- The references of chapter 02 as contracts: PutInt, Stuff, Int, Unstuff, Sum come to what the program's functions come to. Lengths are below 2^40. -/
import Derived.Test.YtnekjbmhmpfkgaaRefPlain
import Derived.Test.YtnekjbmhmpfkgaaLengths
import Derived.Test.YtnekjbmhmpfkgaaRg
import Derived.Test.YtnekjbmhmpfkgaaSum
import Derived.Test.YtnekjbmhmpfkgaaInt
namespace Go.Proofs.Ytnekjbmhmpfkgaa
open Go.RowKit
set_option linter.unusedVariables false
set_option linter.unusedSimpArgs false

set_option maxRecDepth 100000 in
set_option maxHeartbeats 400000 in
theorem rspecial_any (c : Nat) (w : World) (hc : c < 256) :
    Calls Try.prog 25 #[.int .u8 (c : Int)] w fun e w' => e = .returned (.bool (Wire.spec c)) ∧ w = w' := by
  go_enter Try.func25, Try.ntmps25
  go_wp2
  all_goals
    go_ret
    refine ⟨ret_bool ?_, rfl⟩
    rw [Bool.eq_iff_iff]
    simp [Wire.spec]
    omega

set_option maxRecDepth 100000 in
set_option maxHeartbeats 400000 in
theorem unfolded_any (u : Nat) (w : World) (hu : u < 18446744073709551616) :
    Calls Try.prog 27 #[.int .u64 (u : Int)] w fun e w' => e = .returned (.int .i64 (Wire.unfold_ u)) ∧ w = w' := by
  by_cases h : u % 2 = 0
  · have R : Hid (Wire.unfold_ u = ((u / 2 : Nat) : Int)) := by unfold Hid Wire.unfold_; rw [if_pos h]
    have h2 : (((u : Int) % 2) == 0) = true := by simp; omega
    have h3 := Lib.hid h
    clear h
    go_enter Try.func27, Try.ntmps27
    go_wp2
    go_ret
    exact ⟨ret_int (by rw [R.out]; omega), rfl⟩
  · have R : Hid (Wire.unfold_ u = -((u / 2 : Nat) : Int) - 1) := by unfold Hid Wire.unfold_; rw [if_neg h]
    have h2 : (((u : Int) % 2) == 0) = false := by simp; omega
    have h3 := Lib.hid h
    clear h
    go_enter Try.func27, Try.ntmps27
    go_wp2
    go_ret
    exact ⟨ret_int (by rw [R.out]; omega), rfl⟩

set_option maxRecDepth 100000 in
set_option maxHeartbeats 400000 in
theorem rsum_any (x : Option Addr) (n cap : Nat) (bs : List Nat) (w : World) (hr : NRow .u8 w x n cap bs) (hb8 : ∀ c ∈ bs, c < 256) :
    Calls Try.prog 22 #[.slice x n cap] w fun e w' => e = .returned (.int .u32 ((Crc.sum bs : Nat) : Int)) ∧ w = w' := by
  have hn := hr.length
  have hnc := hr.le
  have hmax := hr.capLe
  unfold maxLen at hmax
  go_enter Try.func22, Try.ntmps22
  go_wp2
  go_loop [3, 9] (fun t i => ∃ k : Nat, k ≤ n ∧ i = .int .i64 k ∧ t = .int .u32 (((bs.take k).foldl Crc.upd 4294967295 : Nat) : Int)) (fun _ i => n - (intOf i).toNat)
  case atStart => exact ⟨0, by omega, rfl, rfl⟩
  case round =>
    obtain ⟨k, hk, rfl, rfl⟩ := hrel
    have hlt := Crc.fold_lt (bs.take k) 4294967295 (by omega) (fun c hc => hb8 c (List.mem_of_mem_take hc))
    by_cases h : k < n
    · obtain ⟨b, off, rfl, hbl, hc⟩ := hr.pos (by omega)
      obtain ⟨c, hcg⟩ := has_get (l := bs) (k := k) (by omega)
      have hck := hc k c hcg
      have hc8 := hb8 c (mem_get hcg)
      have Hnew := Lib.hid (show (bs.take (k + 1)).foldl Crc.upd 4294967295 = Crc.bitsN 8 ((bs.take k).foldl Crc.upd 4294967295 ^^^ c) by
        rw [take_snoc hcg, List.foldl_append, Crc.bits_upd hc8]; rfl)
      have hx : bits BinOp.xor IntKind.u32 (((bs.take k).foldl Crc.upd 4294967295 : Nat) : Int) (c : Int) = ((((bs.take k).foldl Crc.upd 4294967295) ^^^ c : Nat) : Int) := u32_xor_nat _ c hlt (by omega)
      have hxl : ((bs.take k).foldl Crc.upd 4294967295) ^^^ c < 4294967296 := Nat.xor_lt_two_pow (n := 32) (by omega) (by omega)
      clear hc hcg
      have Hn := Lib.hid hn
      clear hn
      generalize (bs.take k).foldl Crc.upd 4294967295 = st at *
      generalize st ^^^ c = st' at *
      go_wp2
      go_loop [3, 5] (fun t i => ∃ j : Nat, j ≤ 8 ∧ i = .int .i64 j ∧ t = .int .u32 ((Crc.bitsN j st' : Nat) : Int)) (fun _ i => 8 - (intOf i).toNat)
      case atStart => exact ⟨0, by omega, rfl, rfl⟩
      case round =>
        obtain ⟨j, hj, rfl, rfl⟩ := hrel
        have hlt2 := Crc.bitsN_lt hxl j
        by_cases h8 : j < 8
        · have hand : bits BinOp.and IntKind.u32 ((Crc.bitsN j st' : Nat) : Int) 1 = ((Crc.bitsN j st' % 2 : Nat) : Int) := by
            have := u32_and_nat (Crc.bitsN j st') 1 hlt2 (by omega)
            rw [nat_mask1] at this
            exact this
          have hbit : Hid (Crc.bitsN (j + 1) st' = (Crc.bitsN j st' / 2) ^^^ (3988292384 * (Crc.bitsN j st' % 2) % 4294967296)) := by
            unfold Hid
            rw [← Nat.and_one_is_mod]; rfl
          generalize Crc.bitsN j st' = q at *
          rcases Nat.mod_two_eq_zero_or_one q with hq | hq
          · have hb2 := Lib.hid (show Crc.bitsN (j + 1) st' = q / 2 by rw [hbit.out, hq]; simp)
            rw [hq] at hand
            have Hq := Lib.hid hq
            clear hq
            go_wp2
            go_round
            case rel => exact ⟨j + 1, by omega, by go_num, by rw [hb2.out]; go_num⟩
            case measure => simp [intOf]; omega
          · have hb2 := Lib.hid (show Crc.bitsN (j + 1) st' = (q / 2) ^^^ 3988292384 by rw [hbit.out, hq])
            have hfx : bits BinOp.xor IntKind.u32 ((q : Int) / 2) 3988292384 = (((q / 2) ^^^ 3988292384 : Nat) : Int) := u32_xor_nat (q / 2) 3988292384 (by omega) (by omega)
            rw [hq] at hand
            have Hq := Lib.hid hq
            clear hq
            generalize (q / 2) ^^^ 3988292384 = q' at *
            go_wp2
            go_round
            case rel => exact ⟨j + 1, by omega, by go_num, by rw [hb2.out]⟩
            case measure => simp [intOf]; omega
        · obtain rfl : j = 8 := by omega
          go_wp2
          go_round
          case rel => exact ⟨k + 1, by omega, by go_num, by rw [Hnew.out]⟩
          case measure => simp [intOf]; omega
    · obtain rfl : k = n := by omega
      have Hst : Hid (bs.foldl Crc.upd 4294967295 = (bs.take k).foldl Crc.upd 4294967295) := by unfold Hid; rw [List.take_of_length_le (by omega)]
      have Hn := Lib.hid hn
      clear hn
      generalize (bs.take k).foldl Crc.upd 4294967295 = st at *
      go_wp2
      go_ret
      refine ⟨ret_int ?_, rfl⟩
      unfold Crc.sum Crc.run
      rw [Hst.out]
      exact not_u32 hlt
set_option maxRecDepth 100000 in
set_option maxHeartbeats 400000 in
theorem rstuff_any (x : Option Addr) (n cap : Nat) (bs : List Nat) (w : World) (hr : NRow .u8 w x n cap bs) (hb8 : ∀ c ∈ bs, c < 256) (hsm : n ≤ 1099511627776) :
    Calls Try.prog 17 #[.slice x n cap] w (Gives w 5 1 (nats .u8 (Wire.stuff bs))) := by
  have hn := hr.length
  go_enter Try.func17, Try.ntmps17
  go_wp2
  go_loopw [3, 8] (fun v i wr => ∃ (k : Nat) (x' : Option Addr) (m cap' : Nat), k ≤ n ∧ i = .int .i64 k ∧ v = .slice x' m cap' ∧ Own wr w.heap.size 5 1 x' m cap' (nats .u8 (126 :: Wire.body (bs.take k))) ∧ Below w.heap.size w wr) (fun _ i _ => n - (intOf i).toNat)
  case atStart => exact ⟨0, _, _, _, by omega, rfl, rfl, Own.lit1 _ _ _ (Nat.le_refl _), (Below.refl _ _).alloc (Nat.le_refl _) _⟩
  case round =>
    obtain ⟨k, x', m, cap', hk, rfl, rfl, ho, hb⟩ := hrel
    have hbl := Wire.body_length (bs.take k)
    have hm := ho.length
    rw [nats_length, List.length_cons] at hm
    rw [List.length_take] at hbl
    by_cases h : k < n
    · obtain ⟨b, off, rfl, hblt, hc⟩ := hr.pos (by omega)
      obtain ⟨c, hcg⟩ := has_get (l := bs) (k := k) (by omega)
      have hck := ((bcell hb).1 b (off + k) hblt).trans (hc k c hcg)
      have hc8 := hb8 c (mem_get hcg)
      have Hnew := Lib.hid (Wire.body_take hcg)
      have Hn := Lib.hid hn
      have hsz := hb.size
      clear hc hn hcg
      by_cases hs : Wire.spec c = true
      · have hx : bits BinOp.xor IntKind.u8 (c : Int) 32 = ((c ^^^ 32 : Nat) : Int) := u8_xor_nat c 32 hc8 (by omega)
        have Hx := Lib.hid hx
        have E := Lib.hid (show nats .u8 (126 :: Wire.body (bs.take (k + 1))) = nats .u8 (126 :: Wire.body (bs.take k)) ++ [.int .u8 125, .int .u8 ((c ^^^ 32 : Nat) : Int)] by rw [Hnew.out, Wire.esc_yes hs]; simp [nats])
        generalize c ^^^ 32 = c' at *
        go_wp2_with (first | (go_at_call 25; refine (rspecial_any _ _ hc8).mono ?_; rintro e w' ⟨rfl, rfl⟩) | (at_builtin; refine wpList_app rfl _ _ 22 rfl elemU8 rfl (ho.alloc _) rfl (Own.lit2 _ _ _ _ (Nat.le_refl _)).row (two_oneCell _ _ _) (by omega) (maxLen_of (by omega)) (by simp; omega) ?_; intro x1 cap1 w1 ho1 hg1 hb1))
        go_roundw
        case rel => exact ⟨k + 1, _, _, _, by omega, by go_num, rfl, by rw [E.out]; exact ho1, (hb.alloc hsz _).trans hb1⟩
        case measure => simp [intOf]; omega
      · have hs' : Wire.spec c = false := by simpa using hs
        clear hs
        have E := Lib.hid (show nats .u8 (126 :: Wire.body (bs.take (k + 1))) = nats .u8 (126 :: Wire.body (bs.take k)) ++ [.int .u8 (c : Int)] by rw [Hnew.out, Wire.esc_no hs']; simp [nats])
        go_wp2_with (first | (go_at_call 25; refine (rspecial_any _ _ hc8).mono ?_; rintro e w' ⟨rfl, rfl⟩) | (at_builtin; refine wpList_app rfl _ _ 22 rfl elemU8 rfl (ho.alloc _) rfl (Own.lit1 _ _ _ (Nat.le_refl _)).row (one_oneCell _ _) (by omega) (maxLen_of (by omega)) (by simp; omega) ?_; intro x1 cap1 w1 ho1 hg1 hb1))
        go_roundw
        case rel => exact ⟨k + 1, _, _, _, by omega, by go_num, rfl, by rw [E.out]; exact ho1, (hb.alloc hsz _).trans hb1⟩
        case measure => simp [intOf]; omega
    · have E := Lib.hid (show nats .u8 (Wire.stuff bs) = nats .u8 (126 :: Wire.body (bs.take k)) ++ [.int .u8 124] by rw [List.take_of_length_le (by omega)]; simp [nats, Wire.stuff])
      have hsz := hb.size
      have Hn := Lib.hid hn
      clear hn
      go_wp2_with (at_builtin; refine wpList_app rfl _ _ 22 rfl elemU8 rfl (ho.alloc _) rfl (Own.lit1 _ _ _ (Nat.le_refl _)).row (one_oneCell _ _) (by omega) (maxLen_of (by omega)) (by simp; omega) ?_; intro x1 cap1 w1 ho1 hg1 hb1)
      go_ret
      exact ⟨_, _, _, rfl, by rw [E.out]; exact ho1, (hb.alloc hsz _).trans hb1⟩

set_option maxRecDepth 100000 in
set_option maxHeartbeats 400000 in
theorem rput_any (x : Option Addr) (n cap : Nat) (bs : List Nat) (z : Int) (w : World) (hr : NRow .u8 w x n cap bs) (hsm : n ≤ 1099511627776) (h1 : -9223372036854775808 ≤ z) (h2 : z ≤ 9223372036854775807) :
    Calls Try.prog 16 #[.slice x n cap, .int .i64 z] w (Gives w 5 1 (nats .u8 (bs ++ Wire.put (Wire.fold z)))) := by
  have hn := hr.length
  have hlt := Wire.fold_lt h1 h2
  have hfold := fun w => folded_any z w h1 h2
  generalize Wire.fold z = u0 at *
  have Hn := Lib.hid hn
  have hlen : (Wire.put u0).length ≤ 10 := Wire.put_len10 hlt
  clear hn
  go_enter Try.func16, Try.ntmps16
  go_wp2_with (first
    | (at_builtin; refine wpList_clone rfl _ _ 22 rfl elemU8 rfl (Own.empty _ _ 1 (Nat.le_refl _)) rfl (Row.later hr ((Below.refl _ _).alloc (Nat.le_refl _) _)) (nats_oneCell _ _) (by omega) (maxLen_of (by omega)) (by simp) ?_; intro x1 cap1 w1 ho1 hg1 hb1')
    | (go_at_call 23; refine (hfold _).mono ?_; rintro e w' ⟨rfl, rfl⟩))
  have hb1 : Below w.heap.size w w1 := ((Below.refl _ _).alloc (Nat.le_refl _) _).trans hb1'
  have Hlt := Lib.hid hlt
  clear hg1 hb1' hlt h1 h2 hfold
  go_loopw [5, 6] (fun v u wr => ∃ (q : Nat) (dn : List Nat) (x' : Option Addr) (m cap' : Nat), u = .int .u64 (q : Int) ∧ q ≤ u0 ∧ Wire.put u0 = dn ++ Wire.put q ∧ v = .slice x' m cap' ∧ Own wr w.heap.size 5 1 x' m cap' (nats .u8 (bs ++ dn)) ∧ Below w.heap.size w wr) (fun _ u _ => (intOf u).toNat)
  case atStart => exact ⟨u0, [], _, _, _, by go_num, Nat.le_refl _, rfl, rfl, by simpa using ho1, hb1⟩
  case round =>
    obtain ⟨q, dn, x', m, cap', rfl, hq, hdn, rfl, ho, hb⟩ := hrel
    have hm := ho.length
    have hsz := hb.size
    have hl2 := congrArg List.length hdn
    have hp := Wire.put_pos q
    rw [nats_length, List.length_append, Hn.out] at hm
    rw [List.length_append] at hl2
    have Hdn := Lib.hid hdn
    clear hdn
    have hm2 : m ≤ 1099511627800 := by omega
    have Hm := Lib.hid hm
    have Hl2 := Lib.hid hl2
    clear hm hl2
    by_cases h : 128 ≤ q
    · have E := Lib.hid (show nats .u8 (bs ++ (dn ++ [q % 128 + 128])) = nats .u8 (bs ++ dn) ++ [.int .u8 ((q % 128 + 128 : Nat) : Int)] by simp [nats])
      have F := Lib.hid (show Wire.put u0 = (dn ++ [q % 128 + 128]) ++ Wire.put (q / 128) by rw [Hdn.out, Wire.put_big h]; simp)
      have e0 : ∀ n : Int, IntKind.u64.wrap n = n % 18446744073709551616 := fun n => by simp [IntKind.wrap, IntKind.bits, IntKind.signed]
      have e1 : IntKind.u64.wrap ((q : Int) % 128 + 128) = ((q % 128 + 128 : Nat) : Int) := by rw [e0]; omega
      have e2 : IntKind.u64.wrap ((q : Int) / 128) = ((q / 128 : Nat) : Int) := by have := Hlt.out; rw [e0]; omega
      have e3 : q % 128 + 128 < 256 := by omega
      have e4 : IntKind.u64.wrap ((q : Int) % 128) = ((q % 128 : Nat) : Int) := by rw [e0]; omega
      clear e0
      generalize q % 128 + 128 = c' at *
      go_wp2_with (at_builtin; refine wpList_app rfl _ _ 22 rfl elemU8 rfl (ho.alloc _) rfl (Own.lit1 _ _ _ (Nat.le_refl _)).row (one_oneCell _ _) (by omega) (maxLen_of (by omega)) (by simp; omega) ?_; intro x1 cap1 w1 ho1 hg1 hb1)
      go_roundw
      case rel => exact ⟨q / 128, _, _, _, _, by go_num, by omega, F.out, rfl, by rw [E.out]; exact ho1, (hb.alloc hsz _).trans hb1⟩
      case measure => simp [intOf]; omega
    · have E := Lib.hid (show nats .u8 (bs ++ Wire.put u0) = nats .u8 (bs ++ dn) ++ [.int .u8 (q : Int)] by rw [Hdn.out, Wire.put_small (by omega)]; simp [nats])
      go_wp2_with (at_builtin; refine wpList_app rfl _ _ 22 rfl elemU8 rfl (ho.alloc _) rfl (Own.lit1 _ _ _ (Nat.le_refl _)).row (one_oneCell _ _) (by omega) (maxLen_of (by omega)) (by simp; omega) ?_; intro x1 cap1 w1 ho1 hg1 hb1)
      go_ret
      exact ⟨_, _, _, rfl, by rw [E.out]; exact ho1, (hb.alloc hsz _).trans hb1⟩

end Go.Proofs.Ytnekjbmhmpfkgaa
