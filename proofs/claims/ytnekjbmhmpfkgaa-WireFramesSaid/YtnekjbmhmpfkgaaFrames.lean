/- The law WireFrames as a contract: it answers true. No condition. -/
import Derived.Test.YtnekjbmhmpfkgaaStuff
import Derived.Test.YtnekjbmhmpfkgaaUnstuff
import Derived.Test.YtnekjbmhmpfkgaaAwake
import Derived.Test.YtnekjbmhmpfkgaaRg
namespace Go.Proofs.Ytnekjbmhmpfkgaa
open Go.RowKit
set_option linter.unusedVariables false
set_option linter.unusedSimpArgs false

set_option maxRecDepth 100000 in
set_option maxHeartbeats 1000000 in
theorem frames_walk (x : Option Addr) (n cap : Nat) (bs : List Nat) (w : World) (hr : NRow .u8 w x n cap bs) (hb8 : ∀ c ∈ bs, c < 256) :
    Calls Try.prog 5 #[.slice x n cap] w fun e w' => e = .returned (.bool true) ∧ Below w.heap.size w w' := by
  have hn := hr.length
  have Hn := Lib.hid hn
  clear hn
  by_cases h1 : 300 < n
  · go_enter Try.func5, Try.ntmps5
    go_wp2_with (go_at_call 8; refine (awake_any _).mono ?_; rintro e w1 ⟨rfl, hb⟩)
    go_ret
    exact ⟨rfl, hb⟩
  · have hbl := Wire.body_length bs
    rw [Hn.out] at hbl
    have hs8 := Wire.stuff_lt hb8
    go_enter Try.func5, Try.ntmps5
    go_wp2_with fail
    refine (stuff_any _ _ _ bs _ hr hb8 (by omega)).mono ?_
    rintro e w1 ⟨x1, n1, cap1, rfl, ho1, hb1⟩
    have hn1 := ho1.length
    rw [nats_length, Wire.stuff_length] at hn1
    generalize hL : (Wire.body bs).length = L at *
    obtain rfl : n1 = L + 2 := by omega
    clear hn1
    have HL := Lib.hid hL
    clear hL
    obtain ⟨g, rfl, hgB, hgl, hgc, hgf⟩ := ho1.pos (by omega)
    have Hgc := Lib.hid hgc
    clear hgc hgf
    go_wp2_with fail
    go_loop [4, 32] (fun u i => ∃ (k : Nat), k ≤ L + 2 ∧ i = .int .i64 (k : Int)) (fun _ i => L + 2 - (intOf i).toNat)
    case atStart => exact ⟨0, by omega, rfl⟩
    case round =>
      obtain ⟨k, hk, rfl⟩ := hrel
      by_cases h : k < L + 2
      · obtain ⟨c, hcg⟩ := has_get (l := Wire.stuff bs) (k := k) (by rw [Wire.stuff_length, HL.out]; exact h)
        have hck := Hgc.out k _ (nats_get (k := .u8) hcg)
        have hc8 := hs8 c (mem_get hcg)
        by_cases hk0 : k = 0
        · subst hk0
          rw [Wire.stuff_first] at hcg
          simp only [Option.some.injEq] at hcg
          subst hcg
          have hf : ((0 : Int) == (L : Int) + 2 - 1) = false := by simp; omega
          go_wp2
          go_round
          case rel => exact ⟨1, by omega, by go_num⟩
          case measure => simp [intOf]
        · by_cases hk1 : k = L + 1
          · subst hk1
            rw [← HL.out, Wire.stuff_last] at hcg
            simp only [Option.some.injEq] at hcg
            subst hcg
            have hf : (((L : Int) + 1) == 0) = false := by simp; omega
            have hf2 : (((L : Int) + 1) == (L : Int) + 2 - 1) = true := by simp; omega
            have hf3 : (((L : Int) + 1) == (L : Int) + 1) = true := by simp
            go_wp2
            go_round
            case rel => exact ⟨L + 1 + 1, by omega, by go_num⟩
            case measure => simp [intOf]; omega
          · obtain ⟨hc1, hc2⟩ := Wire.stuff_mid (by omega) (by rw [HL.out]; omega) hcg
            have hf1 : ((c : Int) == 126) = false := by simp; omega
            have hf2 : ((c : Int) == 124) = false := by simp; omega
            have hf3 : ((k : Int) == 0) = false := by simp; omega
            have hf4 : ((k : Int) == (L : Int) + 2 - 1) = false := by simp; omega
            have hf5 : ((k : Int) == (L : Int) + 1) = false := by simp; omega
            clear hcg hc1 hc2 hk0 hk1
            go_wp2
            go_round
            case rel => exact ⟨k + 1, by omega, by go_num⟩
            case measure => simp [intOf]; omega
      · have HU := Lib.hid (Wire.unstuff_stuff bs)
        have HS := Lib.hid (fun h => Wire.stuff_unstuff (bs := bs) h)
        go_wp2_with fail
        refine (unstuff_any _ _ _ _ _ ho1.row hs8 (by omega)).mono ?_
        rw [HU.out]
        rintro e w2 ⟨x2, n2, cap2, rfl, ho2, hb2⟩
        go_wp2_with fail
        have hbA := hb1.trans (hb2.mono hb1.size)
        refine (unstuff_any _ _ _ _ _ (hr.later hbA) hb8 (by omega)).mono ?_
        rintro e w3 ⟨x3, n3, cap3, rfl, ho3, hb3⟩
        have hbB := hbA.trans (hb3.mono hbA.size)
        have ho2' := ho2.later hb3
        have hr3 := hr.later hbB
        have hok := Wire.unstuff_ok hb8
        generalize hd : (Wire.unstuff bs).1 = d at *
        have hd8 := hok.1
        generalize hg : (Wire.unstuff bs).2 = g at *
        go_wp2_with fail
        have hn3 := ho3.length
        rw [nats_length] at hn3
        have hn3le : n3 ≤ 1000 := by have := hok.2; rw [Hn.out] at this; omega
        clear hn3
        have kB : ∀ w', Below w3.heap.size w3 w' → (convert 22 9 (.slice x n cap)).run Try.prog w' = .ok (.string (str bs)) w' :=
          fun w' hb => run_str w' 22 5 9 Try.underlying22 Try.underlying5 Try.underlying9 (hr3.later hb)
        have kC : ∀ w', Below w3.heap.size w3 w' → (convert 22 9 (.slice x2 n2 cap2)).run Try.prog w' = .ok (.string (str bs)) w' :=
          fun w' hb => run_str w' 22 5 9 Try.underlying22 Try.underlying5 Try.underlying9 (ho2'.later hb).row
        by_cases hg0 : g = 0
        · have hsd := HS.out hg0
          subst hg0
          refine wp_region_rg' w3 (by kernel_rfl) (Below.refl _ _) [69, 70, 71, 72, 73, 74, 75, 76, 77, 78, 79, 80, 81, 82, 83, 84, 85, 86, 87, 88, 89, 90, 91, 92, 2]
            [Is (.int .i64 0), Is (.bool true), Is (.bool true), Is (.slice x2 n2 cap2), Is (.string (str bs)), Is (.slice x n cap), Is (.string (str bs)), Is (.bool true), Is (.bool true), Is (.bool true), Is (.int .i64 0), Is (.bool false), Is (.bool false), Is (.slice x3 n3 cap3),
              (fun v w => ∃ x n cap, v = .slice x n cap ∧ NRow .u8 w x n cap (Wire.stuff d)), Is (.string (str bs)), Is (.slice x n cap), Is (.string (str bs)), Is (.bool true), Is (.bool true), Is (.bool true), Is (.bool true), Is (.bool true), Is (.bool true), Is (.bool true)]
            [(0, .slice x n cap), (5, .slice x2 n2 cap2), (6, .int .i64 0), (7, .slice x3 n3 cap3), (8, .int .i64 0)]
            [none, none, none, some (71, true), some (71, true), some (71, true), some (71, true), some (71, true), none, none, some (78, true), some (78, true), some (78, true), some (81, false), some (81, false), some (81, false), some (81, false), some (81, false), some (81, false), some (78, true), none, none, some (90, true), none, none]
            [[6], [69], [70], [5, 71], [72, 71], [0, 71], [74, 71], [73, 75, 71], [71, 76], [77], [8, 78], [79, 78], [80, 78], [7, 81], [82, 81], [83, 81], [0, 81], [85, 81], [84, 86, 81], [81, 87, 78], [78, 88], [89], [90], [90, 91], [92]]
            rfl ?_ (by kernel_rfl) (by kernel_rfl) ⟨rfl, rfl, rfl, rfl, rfl, trivial⟩ ?_ ?_
          · refine ⟨Is.stays _, Is.stays _, Is.stays _, Is.stays _, Is.stays _, Is.stays _, Is.stays _, Is.stays _, Is.stays _, Is.stays _, Is.stays _, Is.stays _, Is.stays _, Is.stays _, ?_, Is.stays _, Is.stays _, Is.stays _, Is.stays _, Is.stays _, Is.stays _, Is.stays _, Is.stays _, Is.stays _, Is.stays _, trivial⟩
            rintro v wa wb ⟨x5, n5, cap5, rfl, h5⟩ hb
            exact ⟨x5, n5, cap5, rfl, h5.later hb⟩
          · simp only [List.zip_cons_cons, List.zip_nil_left, List.map_cons, List.map_nil, List.cons_append, List.nil_append, rgAllL, KnownL, List.lookup, Nat.reduceBEq, Is, rgDo, and_true]
            refine ⟨?_, ?_, ?_, ?_, ?_, ?_, ?_, ?_, ?_, ?_, ?_, ?_, ?_, ?_, ?_, ?_, ?_, ?_, ?_, ?_, ?_, ?_, ?_, ?_, ?_⟩
            all_goals
              intro A w' hC hK
              have hc : ∀ v, A.eval (.const v) = v := fun _ => rfl
              have hf : ∀ f, A.eval (.func f) = .func (.func f) #[] #[] := fun _ => rfl
              generalize A.eval = ρ at *
              try (simp [go_sem, rgUpon, Is, Below.refl, hc, hf, hK, kB w' hC, kC w' hC]; done)
            · simp [go_sem, rgUpon, Is, hc, hf, hK]
              refine (stuff_any _ _ _ d _ (ho3.later hC).row hd8 (by omega)).mono ?_
              rintro e w4 ⟨x4, n4, cap4, rfl, ho4, hb4⟩
              exact ⟨_, rfl, hb4, x4, n4, cap4, rfl, ho4.row⟩
            · obtain ⟨⟨x5, n5, cap5, hx, hr5⟩, hK⟩ := hK
              have k5 := run_str (P := Try.prog) w' 22 5 9 Try.underlying22 Try.underlying5 Try.underlying9 hr5
              rw [hsd] at k5
              simp [go_sem, rgUpon, Is, Below.refl, hc, hf, hK, hx, k5]
            · simp [go_sem, rgUpon, Is, hc, hf, hK]
              refine (awake_any _).mono ?_
              rintro e w4 ⟨rfl, hb4⟩
              exact ⟨rfl, hb4⟩
          · simp only [List.zip_cons_cons, List.zip_nil_left, rgFin]
            intro _ _ _ _ _ _ _ _ _ _ _ _ _ _ _ _ _ _ _ _ _ _ _ _ v2 w4 hb4 hF
            have hv := hF.2
            subst hv
            clear hF
            simp only [Act.put, List.setIfInBounds_toArray, List.set_cons_zero, List.set_cons_succ]
            go_wp2
            go_ret
            exact ⟨rfl, hbB.trans (hb4.mono hbB.size)⟩
        · have hg0b : (g != 0) = true := by simpa using hg0
          refine wp_region_rg' w3 (by kernel_rfl) (Below.refl _ _) [69, 70, 71, 72, 73, 74, 75, 76, 77, 78, 79, 80, 81, 82, 83, 84, 85, 86, 87, 88, 89, 90, 91, 92, 2]
            [Is (.int .i64 0), Is (.bool true), Is (.bool true), Is (.slice x2 n2 cap2), Is (.string (str bs)), Is (.slice x n cap), Is (.string (str bs)), Is (.bool true), Is (.bool true), Is (.bool true), Is (.int .i64 g), Is (.bool true), Is (.bool true), Is undef,
              Is undef, Is undef, Is undef, Is undef, Is undef, Is (.bool true), Is (.bool true), Is (.bool true), Is (.bool true), Is (.bool true), Is (.bool true)]
            [(0, .slice x n cap), (5, .slice x2 n2 cap2), (6, .int .i64 0), (7, .slice x3 n3 cap3), (8, .int .i64 g)]
            [none, none, none, some (71, true), some (71, true), some (71, true), some (71, true), some (71, true), none, none, some (78, true), some (78, true), some (78, true), some (81, false), some (81, false), some (81, false), some (81, false), some (81, false), some (81, false), some (78, true), none, none, some (90, true), none, none]
            [[6], [69], [70], [5, 71], [72, 71], [0, 71], [74, 71], [73, 75, 71], [71, 76], [77], [8, 78], [79, 78], [80, 78], [7, 81], [82, 81], [83, 81], [0, 81], [85, 81], [84, 86, 81], [81, 87, 78], [78, 88], [89], [90], [90, 91], [92]]
            rfl ?_ (by kernel_rfl) (by kernel_rfl) ⟨rfl, rfl, rfl, rfl, rfl, trivial⟩ ?_ ?_
          · exact ⟨Is.stays _, Is.stays _, Is.stays _, Is.stays _, Is.stays _, Is.stays _, Is.stays _, Is.stays _, Is.stays _, Is.stays _, Is.stays _, Is.stays _, Is.stays _, Is.stays _, Is.stays _, Is.stays _, Is.stays _, Is.stays _, Is.stays _, Is.stays _, Is.stays _, Is.stays _, Is.stays _, Is.stays _, Is.stays _, trivial⟩
          · simp only [List.zip_cons_cons, List.zip_nil_left, List.map_cons, List.map_nil, List.cons_append, List.nil_append, rgAllL, KnownL, List.lookup, Nat.reduceBEq, Is, rgDo, and_true]
            refine ⟨?_, ?_, ?_, ?_, ?_, ?_, ?_, ?_, ?_, ?_, ?_, ?_, ?_, ?_, ?_, ?_, ?_, ?_, ?_, ?_, ?_, ?_, ?_, ?_, ?_⟩
            all_goals
              intro A w' hC hK
              have hc : ∀ v, A.eval (.const v) = v := fun _ => rfl
              have hf : ∀ f, A.eval (.func f) = .func (.func f) #[] #[] := fun _ => rfl
              generalize A.eval = ρ at *
              try (simp [go_sem, rgUpon, Is, Below.refl, hc, hf, hK, kB w' hC, kC w' hC, hg0b]; done)
            · simp [go_sem, rgUpon, Is, hc, hf, hK]
              refine (awake_any _).mono ?_
              rintro e w4 ⟨rfl, hb4⟩
              exact ⟨rfl, hb4⟩
          · simp only [List.zip_cons_cons, List.zip_nil_left, rgFin]
            intro _ _ _ _ _ _ _ _ _ _ _ _ _ _ _ _ _ _ _ _ _ _ _ _ v2 w4 hb4 hF
            have hv := hF.2
            subst hv
            clear hF
            simp only [Act.put, List.setIfInBounds_toArray, List.set_cons_zero, List.set_cons_succ]
            go_wp2
            go_ret
            exact ⟨rfl, hbB.trans (hb4.mono hbB.size)⟩
end Go.Proofs.Ytnekjbmhmpfkgaa
