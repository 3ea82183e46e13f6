/- The law WireNumbers as a contract: it answers true. No condition. -/
import Derived.Test.YtnekjbmhmpfkgaaPutInt
import Derived.Test.YtnekjbmhmpfkgaaInt
import Derived.Test.YtnekjbmhmpfkgaaAwake
namespace Go.Proofs.Ytnekjbmhmpfkgaa
open Go.RowKit
set_option linter.unusedVariables false
set_option linter.unusedSimpArgs false

set_option maxRecDepth 100000 in
set_option maxHeartbeats 1000000 in
theorem numbers_walk (zn zm : Int) (x : Option Addr) (n cap : Nat) (bs : List Nat) (y : Option Addr) (m capm : Nat) (ms : List Nat) (w : World) (hr : NRow .u8 w x n cap bs) (hb8 : ∀ c ∈ bs, c < 256) (hrm : NRow .u8 w y m capm ms) (hm8 : ∀ c ∈ ms, c < 256)
    (hn1 : -9223372036854775808 ≤ zn) (hn2 : zn ≤ 9223372036854775807) (hm1 : -9223372036854775808 ≤ zm) (hm2 : zm ≤ 9223372036854775807) :
    Calls Try.prog 4 #[.int .i64 zn, .int .i64 zm, .slice x n cap, .slice y m capm] w fun e w' => e = .returned (.bool true) ∧ Below w.heap.size w w' := by
  have hn := hr.length
  have Hn := Lib.hid hn
  have hmm := hrm.length
  have Hm := Lib.hid hmm
  clear hn hmm
  by_cases hbig : 100 < n ∨ 100 < m
  · by_cases h1 : 100 < n
    · go_enter Try.func4, Try.ntmps4
      go_wp2_with (go_at_call 8; refine (awake_any _).mono ?_; rintro e w1 ⟨rfl, hb⟩)
      go_ret
      exact ⟨rfl, hb⟩
    · have h2 : 100 < m := by omega
      clear hbig
      go_enter Try.func4, Try.ntmps4
      go_wp2_with (go_at_call 8; refine (awake_any _).mono ?_; rintro e w1 ⟨rfl, hb⟩)
      go_ret
      exact ⟨rfl, hb⟩
  · have h1 : n ≤ 100 := by omega
    have h2 : m ≤ 100 := by omega
    clear hbig
    have hp1 := Wire.put_pos (Wire.fold zn)
    have hp2 := Wire.put_len10 (Wire.fold_lt hn1 hn2)
    have hq1 := Wire.put_pos (Wire.fold zm)
    have hq2 := Wire.put_len10 (Wire.fold_lt hm1 hm2)
    have hpb := Wire.put_bytes (Wire.fold zn)
    have hqb := Wire.put_bytes (Wire.fold zm)
    have A1 : ∀ more, Hid (Wire.getI (bs ++ Wire.put (Wire.fold zn) ++ more) n = (zn, (n : Int) + (Wire.put (Wire.fold zn)).length, 0)) := fun more => by
      have := Wire.getI_put bs more zn hn1 hn2
      rw [Hn.out] at this
      exact this
    have A2 : Hid (Wire.getI (bs ++ Wire.put (Wire.fold zn) ++ Wire.put (Wire.fold zm)) ((n : Int) + (Wire.put (Wire.fold zn)).length) = (zm, (n : Int) + (Wire.put (Wire.fold zn)).length + (Wire.put (Wire.fold zm)).length, 0)) := by
      have := Wire.getI_put (bs ++ Wire.put (Wire.fold zn)) [] zm hm1 hm2
      rw [List.append_nil, List.length_append, Hn.out, Int.natCast_add] at this
      exact this
    have A3 : Hid (Wire.getI (bs ++ (Wire.put (Wire.fold zn)).take ((Wire.put (Wire.fold zn)).length - 1)) n = (0, 0, 2)) := by
      have := Wire.getI_short bs zn ((Wire.put (Wire.fold zn)).length - 1) hn1 hn2 (by omega)
      rw [Hn.out] at this
      exact this
    go_enter Try.func4, Try.ntmps4
    go_wp2_with fail
    refine (put_any _ _ _ bs zn _ hr (by omega) hn1 hn2).mono ?_
    rintro e w1 ⟨x1, n1, cap1, rfl, ho1, hb1⟩
    have hn1e := ho1.length
    rw [nats_length, List.length_append, Hn.out] at hn1e
    have hn1le : n1 ≤ 120 := by omega
    have Hn1 := Lib.hid hn1e
    clear hn1e
    go_wp2_with fail
    refine (put_any _ _ _ _ zm _ ho1.row (by omega) hm1 hm2).mono ?_
    rintro e w2 ⟨x2, n2, cap2, rfl, ho2, hb2⟩
    have hn2e := ho2.length
    rw [nats_length, List.length_append, List.length_append, Hn.out] at hn2e
    have hbA : Below w.heap.size w w2 := hb1.trans (hb2.mono hb1.size)
    clear hb1 hb2 ho1
    generalize hpl : (Wire.put (Wire.fold zn)).length = p at *
    generalize hql : (Wire.put (Wire.fold zm)).length = q at *
    have Hpl := Lib.hid hpl
    have Hql := Lib.hid hql
    obtain rfl : n2 = n + p + q := by omega
    have HA3 : Hid ((bs ++ Wire.put (Wire.fold zn) ++ Wire.put (Wire.fold zm)).take (n + p - 1) = bs ++ (Wire.put (Wire.fold zn)).take (p - 1)) := by
      unfold Hid
      rw [List.append_assoc, List.take_append, List.take_of_length_le (by rw [Hn.out]; omega), List.take_append_of_le_length (by rw [Hn.out]; omega), Hn.out]
      congr 2
      omega
    clear hpl hql hn2e
    generalize Wire.put (Wire.fold zn) = pn at *
    generalize Wire.put (Wire.fold zm) = pm at *
    have hbb : ∀ c ∈ bs ++ pn ++ pm, c < 256 := by
      intro c hc
      simp only [List.mem_append] at hc
      rcases hc with (hc | hc) | hc
      · exact hb8 c hc
      · exact hpb c hc
      · exact hqb c hc
    have hbm : ∀ c ∈ bs ++ pn ++ (pm ++ ms), c < 256 := by
      intro c hc
      rw [← List.append_assoc] at hc
      rcases List.mem_append.1 hc with hc | hc
      · exact hbb c hc
      · exact hm8 c hc
    have hszA := hbA.size
    go_wp2_with (first
      | (at_builtin; refine wpList_clone rfl (.tmp 48) (.tmp 49) 22 rfl elemU8 rfl (Own.empty _ _ 1 (Nat.le_refl _)) rfl (Own.row (ho2.alloc _)) (nats_oneCell _ _) (by omega) (maxLen_of (by omega)) (by simp) ?_; intro x3 cap3 w3 ho3 hg3 hb3)
      | (at_builtin; refine wpList_app rfl (.tmp 50) (.tmp 51) 22 rfl elemU8 rfl ho3 rfl (hrm.later ((hbA.alloc hszA _).trans (hb3.mono hszA))) (nats_oneCell _ _) (by omega) (maxLen_of (by omega)) (by have := hb3.size; simp at this; omega) ?_; intro x4 cap4 w4 ho4 hg4 hb4))
    rw [← nats_append] at ho4
    have hbB : Below w2.heap.size w2 w4 := (((Below.refl _ _).alloc (Nat.le_refl _) _).trans hb3).trans hb4
    have hbC : Below w.heap.size w w4 := hbA.trans (hbB.mono hszA)
    have hrb : NRow .u8 w4 x2 (n + p + q) cap2 (bs ++ pn ++ pm) := (ho2.later hbB).row
    clear hg3 hg4 hb3 hb4 ho3 hbA hbB ho2
    refine (int_any _ _ _ _ n _ ho4.row (by rw [List.append_assoc]; exact hbm) (by omega)).mono ?_
    rintro e w5 ⟨rfl, rfl⟩
    rw [show bs ++ pn ++ pm ++ ms = bs ++ pn ++ (pm ++ ms) by rw [List.append_assoc], (A1 _).out]
    unfold Trip
    have hz : ((zn : Int) != zn) = false := by simp
    go_wp2_with fail
    refine (int_any _ _ _ _ _ _ hrb hbb (by omega)).mono ?_
    rintro e w5 ⟨rfl, rfl⟩
    rw [A2.out]
    unfold Trip
    have hle2 := hrb.le
    go_wp2_with fail
    refine (int_any _ _ _ _ _ _ (hrb.take (by omega)) (fun c hc => hbb c (List.mem_of_mem_take hc)) (by omega)).mono ?_
    rintro e w5 ⟨rfl, rfl⟩
    rw [HA3.out, A3.out]
    unfold Trip
    go_wp2_with (go_at_call 8; refine (awake_any _).mono ?_; rintro e w6 ⟨rfl, hb6⟩)
    go_ret
    exact ⟨rfl, hbC.trans (hb6.mono hbC.size)⟩
end Go.Proofs.Ytnekjbmhmpfkgaa
