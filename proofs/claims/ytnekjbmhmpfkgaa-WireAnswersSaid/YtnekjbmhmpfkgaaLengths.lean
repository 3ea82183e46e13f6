/- The law WireLengths as a contract: it answers true. No condition. -/
import Derived.Test.YtnekjbmhmpfkgaaStuff
import Derived.Test.YtnekjbmhmpfkgaaUnstuff
import Derived.Test.YtnekjbmhmpfkgaaPutInt
import Derived.Test.YtnekjbmhmpfkgaaAwake
import Derived.Test.YtnekjbmhmpfkgaaLib2
namespace Go.Proofs.Ytnekjbmhmpfkgaa
open Go.RowKit
set_option linter.unusedVariables false
set_option linter.unusedSimpArgs false

set_option maxRecDepth 100000 in
set_option maxHeartbeats 1000000 in
theorem folded_any (z : Int) (w : World) (h1 : -9223372036854775808 ≤ z) (h2 : z ≤ 9223372036854775807) :
    Calls Try.prog 23 #[.int .i64 z] w fun e w' => e = .returned (.int .u64 ((Wire.fold z : Nat) : Int)) ∧ w = w' := by
  have e0 : ∀ n : Int, IntKind.u64.wrap n = n % 18446744073709551616 := fun n => by simp [IntKind.wrap, IntKind.bits, IntKind.signed]
  by_cases h : 0 ≤ z
  · have R : Hid (∀ v, v = ((Wire.fold z : Nat) : Int) ↔ v = z * 2) := by
      intro v; unfold Wire.fold; rw [if_pos h]; omega
    have E := Lib.hid e0
    clear e0
    go_enter Try.func23, Try.ntmps23
    go_wp2
    go_ret
    exact ⟨ret_int ((R.out _).2 (by omega)), rfl⟩
  · have R : Hid (∀ v, v = ((Wire.fold z : Nat) : Int) ↔ v = (-z - 1) * 2 + 1) := by
      intro v; unfold Wire.fold; rw [if_neg h]; omega
    have E := Lib.hid e0
    clear e0
    go_enter Try.func23, Try.ntmps23
    go_wp2
    go_ret
    exact ⟨ret_int ((R.out _).2 (by omega)), rfl⟩

set_option maxRecDepth 100000 in
set_option maxHeartbeats 1000000 in
theorem lengths_walk (z : Int) (x : Option Addr) (n cap : Nat) (bs : List Nat) (y : Option Addr) (m capm : Nat) (ms : List Nat) (w : World) (hr : NRow .u8 w x n cap bs) (hb8 : ∀ c ∈ bs, c < 256) (hrm : NRow .u8 w y m capm ms) (hm8 : ∀ c ∈ ms, c < 256)
    (hz1 : -9223372036854775808 ≤ z) (hz2 : z ≤ 9223372036854775807) :
    Calls Try.prog 7 #[.int .i64 z, .slice x n cap, .slice y m capm] w fun e w' => e = .returned (.bool true) ∧ Below w.heap.size w w' := by
  have hn := hr.length
  have Hn := Lib.hid hn
  have hmm := hrm.length
  have Hm := Lib.hid hmm
  clear hn hmm
  by_cases hbig : 200 < n ∨ 200 < m
  · by_cases h1 : 200 < n
    · go_enter Try.func7, Try.ntmps7
      go_wp2_with (go_at_call 8; refine (awake_any _).mono ?_; rintro e w1 ⟨rfl, hb⟩)
      go_ret
      exact ⟨rfl, hb⟩
    · have h2 : 200 < m := by omega
      clear hbig
      go_enter Try.func7, Try.ntmps7
      go_wp2_with (go_at_call 8; refine (awake_any _).mono ?_; rintro e w1 ⟨rfl, hb⟩)
      go_ret
      exact ⟨rfl, hb⟩
  · have h1 : n ≤ 200 := by omega
    have h2 : m ≤ 200 := by omega
    clear hbig
    have hlt := Wire.fold_lt hz1 hz2
    have hp2 := Lib.hid (Wire.put_len10 hlt)
    go_enter Try.func7, Try.ntmps7
    go_wp2_with (go_at_call 23; refine (folded_any _ _ hz1 hz2).mono ?_; rintro e w' ⟨rfl, rfl⟩)
    have Hlt := Lib.hid hlt
    clear hlt
    go_loop [7, 8] (fun s u => ∃ (q k : Nat), u = .int .u64 (q : Int) ∧ s = .int .i64 (k : Int) ∧ k + (Wire.put q).length = 1 + (Wire.put (Wire.fold z)).length ∧ q ≤ Wire.fold z) (fun _ u => (intOf u).toNat)
    case atStart => exact ⟨Wire.fold z, 1, rfl, rfl, rfl, Nat.le_refl _⟩
    case round =>
      obtain ⟨q, k, rfl, rfl, hk, hqz⟩ := hrel
      have hwr : IntKind.u64.wrap ((q : Int) / 128) = ((q / 128 : Nat) : Int) := by
        have := Hlt.out
        have e0 : ∀ n : Int, IntKind.u64.wrap n = n % 18446744073709551616 := fun n => by simp [IntKind.wrap, IntKind.bits, IntKind.signed]
        rw [e0]; omega
      have hpos := Wire.put_pos q
      have hkl : k ≤ 100 := by have := hp2.out; omega
      have Hk := Lib.hid hk
      clear hk hpos
      by_cases hq : 128 ≤ q
      · have F := Lib.hid (show k + 1 + (Wire.put (q / 128)).length = 1 + (Wire.put (Wire.fold z)).length by have := Hk.out; rw [Wire.put_big hq, List.length_cons] at this; omega)
        go_wp2
        go_round
        case rel => exact ⟨q / 128, k + 1, by go_num, by go_num, F.out, by omega⟩
        case measure => simp [intOf]; omega
      · have F := Lib.hid (show (Wire.put (Wire.fold z)).length = k by have := Hk.out; rw [Wire.put_small (by omega)] at this; simp at this; omega)
        have hbl := Wire.body_length bs
        rw [Hn.out] at hbl
        have hbm := Wire.body_length ms
        rw [Hm.out] at hbm
        have hs8 := Wire.stuff_lt hb8
        have hsm8 := Wire.stuff_lt hm8
        go_wp2_with fail
        refine (stuff_any _ _ _ bs _ hr hb8 (by omega)).mono ?_
        rintro e w1 ⟨x1, n1, cap1, rfl, ho1, hb1⟩
        have hn1 := ho1.length
        rw [nats_length, Wire.stuff_length] at hn1
        go_wp2_with fail
        refine (stuff_any _ _ _ ms _ (hrm.later hb1) hm8 (by omega)).mono ?_
        rintro e w2 ⟨x2, n2, cap2, rfl, ho2, hb2⟩
        have hn2 := ho2.length
        rw [nats_length, Wire.stuff_length] at hn2
        have hbA := hb1.trans (hb2.mono hb1.size)
        have ho1' := ho1.later hb2
        have hszA := hbA.size
        clear hb1 hb2 ho1
        generalize hLa : (Wire.body bs).length = La at *
        generalize hLb : (Wire.body ms).length = Lb at *
        obtain rfl : n1 = La + 2 := by omega
        obtain rfl : n2 = Lb + 2 := by omega
        have HLa := Lib.hid hLa
        have HLb := Lib.hid hLb
        clear hLa hLb hn1 hn2
        go_wp2_with (at_builtin; refine wpList_app rfl _ _ 22 rfl elemU8 rfl ho1' rfl ho2.row (nats_oneCell _ _) (by omega) (maxLen_of (by omega)) hszA ?_; intro x3 cap3 w3 ho3 hg3 hb3)
        rw [← nats_append] at ho3
        have hbB := hbA.trans hb3
        clear hg3 hb3 ho1' ho2 hbA
        obtain ⟨g, rfl, hgB, hgl, hgc, hgf⟩ := ho3.pos (by omega)
        have Hgc := Lib.hid hgc
        clear hgc hgf
        have hall : ∀ c ∈ Wire.stuff bs ++ Wire.stuff ms, c < 256 := by
          intro c hc
          rcases List.mem_append.1 hc with hc | hc
          · exact hs8 c hc
          · exact hsm8 c hc
        have Hall := Lib.hid hall
        clear hall
        go_loop [10, 40] (fun e i => ∃ (j : Nat), j ≤ La + 2 + (Lb + 2) ∧ i = .int .i64 (j : Int) ∧ ((j ≤ La + 1 ∧ e = .int .i64 (-1)) ∨ (La + 1 < j ∧ e = .int .i64 ((La + 1 : Nat) : Int)))) (fun _ i => La + 2 + (Lb + 2) - (intOf i).toNat)
        case atStart => exact ⟨0, by omega, rfl, .inl ⟨by omega, rfl⟩⟩
        case round =>
          obtain ⟨j, hj, rfl, he⟩ := hrel
          by_cases hjl : j < La + 2 + (Lb + 2)
          · obtain ⟨c, hcg⟩ := has_get (l := Wire.stuff bs ++ Wire.stuff ms) (k := j) (by rw [List.length_append, Wire.stuff_length, Wire.stuff_length, HLa.out, HLb.out]; exact hjl)
            have hck := Hgc.out j _ (nats_get (k := .u8) hcg)
            have hc8 := Hall.out c (mem_get hcg)
            rcases he with ⟨hj1, rfl⟩ | ⟨hj1, rfl⟩
            · rw [List.getElem?_append_left (by rw [Wire.stuff_length, HLa.out]; omega)] at hcg
              by_cases hj2 : j = La + 1
              · subst hj2
                rw [← HLa.out, Wire.stuff_last] at hcg
                simp only [Option.some.injEq] at hcg
                subst hcg
                go_wp2
                go_round
                case rel => exact ⟨La + 1 + 1, by omega, by go_num, .inr ⟨by omega, by go_num⟩⟩
                case measure => simp [intOf]; omega
              · have hne : ((c : Int) == 124) = false := by
                  by_cases hj0 : j = 0
                  · subst hj0
                    rw [Wire.stuff_first] at hcg
                    simp only [Option.some.injEq] at hcg
                    subst hcg
                    rfl
                  · have := Wire.stuff_mid (by omega) (by rw [HLa.out]; omega) hcg
                    simp; omega
                clear hcg
                go_wp2
                go_round
                case rel => exact ⟨j + 1, by omega, by go_num, .inl ⟨by omega, rfl⟩⟩
                case measure => simp [intOf]; omega
            · clear hcg
              go_wp2
              go_round
              case rel => exact ⟨j + 1, by omega, by go_num, .inr ⟨by omega, rfl⟩⟩
              case measure => simp [intOf]; omega
          · rcases he with ⟨hj1, rfl⟩ | ⟨hj1, rfl⟩
            · exfalso; omega
            · go_wp2_with fail
              refine (put_any _ _ _ [] z _ Row.zero (by omega) hz1 hz2).mono ?_
              rintro e w4 ⟨x4, n4, cap4, rfl, ho4, hb4⟩
              have hn4 := ho4.length
              rw [nats_length, List.nil_append, F.out] at hn4
              obtain rfl : n4 = k := by omega
              clear hn4
              have hbC := hbB.trans (hb4.mono hbB.size)
              have hr3 : NRow .u8 w4 (some ⟨g, 0, none⟩) (La + 2 + (Lb + 2)) cap3 (Wire.stuff bs ++ Wire.stuff ms) := (ho3.later hb4).row
              have hle3 := hr3.le
              have hkk : ((n4 : Int) != n4) = false := by simp
              clear ho4
              have HT : Hid ((Wire.stuff bs ++ Wire.stuff ms).take (La + 1 + 1) = Wire.stuff bs) := by
                have := Wire.stuff_length bs
                rw [HLa.out] at this
                unfold Hid
                rw [← this, List.take_left]
              have HD : Hid ((Wire.stuff bs ++ Wire.stuff ms).drop (La + 2) = Wire.stuff ms) := by
                have := Wire.stuff_length bs
                rw [HLa.out] at this
                unfold Hid
                rw [← this, List.drop_left]
              go_wp2_with fail
              refine (unstuff_any _ _ _ _ _ (hr3.take (j := La + 1 + 1) (by omega)) (by rw [HT.out]; exact hs8) (by omega)).mono ?_
              rw [HT.out, Wire.unstuff_stuff]
              rintro e w5 ⟨x5, n5, cap5, rfl, ho5, hb5⟩
              have hbD := hbC.trans (hb5.mono hbC.size)
              have hrd : NRow .u8 w5 (some ⟨g, La + 1 + 1, none⟩) (Lb + 2) (cap3 - (La + 1 + 1)) (Wire.stuff ms) := by
                have := (hr3.later hb5).drop (j := La + 1 + 1) (by omega)
                rw [Nat.zero_add, show La + 2 + (Lb + 2) - (La + 1 + 1) = Lb + 2 by omega, HD.out] at this
                exact this
              go_wp2_with fail
              refine (unstuff_any _ _ _ _ _ hrd hsm8 (by omega)).mono ?_
              rw [Wire.unstuff_stuff]
              rintro e w6 ⟨x6, n6, cap6, rfl, ho6, hb6⟩
              have hbE := hbD.trans (hb6.mono hbD.size)
              have k1 := run_str (P := Try.prog) w6 22 5 9 Try.underlying22 Try.underlying5 Try.underlying9 (ho5.later hb6).row
              have k2 := run_str (P := Try.prog) w6 22 5 9 Try.underlying22 Try.underlying5 Try.underlying9 (hr.later hbE)
              have k3 := run_str (P := Try.prog) w6 22 5 9 Try.underlying22 Try.underlying5 Try.underlying9 ho6.row
              have k4 := run_str (P := Try.prog) w6 22 5 9 Try.underlying22 Try.underlying5 Try.underlying9 (hrm.later hbE)
              go_wp2_with (go_at_call 8; refine (awake_any _).mono ?_; rintro e w7 ⟨rfl, hb7⟩)
              go_ret
              exact ⟨rfl, hbE.trans (hb7.mono hbE.size)⟩
end Go.Proofs.Ytnekjbmhmpfkgaa
