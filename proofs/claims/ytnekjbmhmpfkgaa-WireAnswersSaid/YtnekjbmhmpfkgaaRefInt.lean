/- The reference's Int and Unstuff as contracts. Lengths are below 2^40. -/
import Derived.Test.YtnekjbmhmpfkgaaRefWire
namespace Go.Proofs.Ytnekjbmhmpfkgaa
open Go.RowKit
set_option linter.unusedVariables false
set_option linter.unusedSimpArgs false

theorem radd_walk {q c k : Nat} (hc : c < 256) :
    IntKind.u64.wrap ((q : Int) + IntKind.u64.wrap (((c : Int) % 128) * 2 ^ (7 * k))) = (((q + c % 128 * 2 ^ (7 * k)) % 18446744073709551616 : Nat) : Int) := by
  have e0 : ∀ n : Int, IntKind.u64.wrap n = n % 18446744073709551616 := fun n => by simp [IntKind.wrap, IntKind.bits, IntKind.signed]
  have hp : (2 : Int) ^ (7 * k) = ((2 ^ (7 * k) : Nat) : Int) := by simp
  have h1 : ((c : Int) % 128) = ((c % 128 : Nat) : Int) := by omega
  rw [e0, e0, hp, h1, ← Int.natCast_mul]
  generalize c % 128 * 2 ^ (7 * k) = m
  omega

set_option maxRecDepth 100000 in
set_option maxHeartbeats 400000 in
theorem rint_any (x : Option Addr) (n cap : Nat) (bs : List Nat) (z : Int) (w : World) (hr : NRow .u8 w x n cap bs) (hb8 : ∀ c ∈ bs, c < 256) (hsm : n ≤ 1099511627776) :
    Calls Try.prog 20 #[.slice x n cap, .int .i64 z] w fun e w' => e = .returned (Trip (Wire.getI bs z)) ∧ w = w' := by
  have hn := hr.length
  have hnc := hr.le
  have hmax := hr.capLe
  unfold maxLen at hmax
  by_cases hz : z < 0 ∨ (n : Int) < z
  · have R : Hid (Wire.getI bs z = (0, 0, 1)) := by unfold Hid Wire.getI; rw [if_pos (by omega)]
    go_enter Try.func20, Try.ntmps20
    go_wp2
    all_goals
      first
      | (exfalso; omega)
      | (go_ret3; exact ⟨by rw [R.out]; exact trip_ret rfl rfl rfl, rfl⟩)
  · obtain ⟨at_, rfl⟩ := Int.eq_ofNat_of_zero_le (show 0 ≤ z by omega)
    have hat : at_ ≤ n := by omega
    clear hz
    have Hn := Lib.hid hn
    clear hn
    go_enter Try.func20, Try.ntmps20
    go_wp2
    go_loop [7, 8] (fun u i => ∃ (k q : Nat), k ≤ 10 ∧ i = .int .i64 (k : Int) ∧ u = .int .u64 (q : Int) ∧ (k < 10 → q < 2 ^ (7 * k)) ∧ Wire.scan (bs.drop (at_ + k)) k q = Wire.scan (bs.drop at_) 0 0) (fun _ i => 10 - (intOf i).toNat)
    case atStart => exact ⟨0, 0, by omega, rfl, rfl, by omega, rfl⟩
    case round =>
      obtain ⟨k, q, hk, rfl, rfl, hq, hs⟩ := hrel
      have Hq := Lib.hid hq
      have Hs := Lib.hid hs
      clear hq hs
      by_cases h10 : k < 10
      · by_cases hin : at_ + k < n
        · obtain ⟨b, off, rfl, hblt, hc⟩ := hr.pos (by omega)
          obtain ⟨c, hcg⟩ := has_get (l := bs) (k := at_ + k) (by rw [Hn.out]; exact hin)
          have hck := hc (at_ + k) c hcg
          have hc8 := hb8 c (mem_get hcg)
          have Hcg := Lib.hid hcg
          clear hc hcg
          have hadd := radd_walk (q := q) (k := k) hc8
          have hstep := Lib.hid (fun h9 : k < 9 => Wire.step_lt (c := c) h9 (Hq.out h10))
          have Hd := Lib.hid (show bs.drop (at_ + k) = c :: bs.drop (at_ + k + 1) from drop_get Hcg.out)
          have hqlt : Hid ((q + c % 128 * 2 ^ (7 * k)) % 18446744073709551616 < 18446744073709551616) := Nat.mod_lt _ (by omega)
          by_cases h9 : k = 9 ∧ 1 < c
          · have R := Lib.hid (show Wire.getI bs (at_ : Int) = (0, 0, 3) by
              unfold Wire.getI
              rw [if_neg (by rw [Hn.out]; omega)]
              simp only [Int.toNat_natCast]
              rw [← Hs.out, Hd.out, h9.1, Wire.scan_nine h9.2]
              rfl)
            have ha2 : ((k : Int) == 9) = true := by simp; omega
            obtain ⟨h9a, h9b⟩ := h9
            have ha1 := Lib.hid h9a
            clear h9a hadd
            go_wp2
            go_ret3
            exact ⟨by rw [R.out]; exact trip_ret rfl rfl rfl, rfl⟩
          · by_cases hbig : 128 ≤ c
            · have hk9 : k < 9 := by omega
              have ha2 : ((k : Int) == 9) = false := by simp; omega
              have R := Lib.hid (show Wire.scan (bs.drop (at_ + (k + 1))) (k + 1) ((q + c % 128 * 2 ^ (7 * k)) % 18446744073709551616) = Wire.scan (bs.drop at_) 0 0 by rw [← Hs.out, Hd.out, Wire.scan_more h10 hbig]; rfl)
              generalize (q + c % 128 * 2 ^ (7 * k)) % 18446744073709551616 = q' at *
              clear h9
              go_wp2
              go_round
              case rel => exact ⟨k + 1, q', by omega, by go_num, rfl, fun h => hstep.out (by omega), R.out⟩
              case measure => simp [intOf]; omega
            · by_cases hbad : 0 < k ∧ c = 0
              · have R := Lib.hid (show Wire.getI bs (at_ : Int) = (0, 0, 3) by
                  unfold Wire.getI
                  rw [if_neg (by rw [Hn.out]; omega)]
                  simp only [Int.toNat_natCast]
                  rw [← Hs.out, Hd.out, Wire.scan_bad h10 (by omega) (.inr hbad)]
                  rfl)
                generalize (q + c % 128 * 2 ^ (7 * k)) % 18446744073709551616 = q' at *
                obtain ⟨hk0, hc0⟩ := hbad
                have hb2 : ((c : Int) == 0) = true := by simp; omega
                have hc1 : c ≤ 1 := by omega
                have hb1 := Lib.hid hc0
                clear hc0 h9
                by_cases hk9 : k = 9
                · have ha2 : ((k : Int) == 9) = true := by simp; omega
                  have ha1 := Lib.hid hk9
                  clear hk9
                  go_wp2
                  go_ret3
                  exact ⟨by rw [R.out]; exact trip_ret rfl rfl rfl, rfl⟩
                · have ha2 : ((k : Int) == 9) = false := by simp; omega
                  go_wp2
                  go_ret3
                  exact ⟨by rw [R.out]; exact trip_ret rfl rfl rfl, rfl⟩
              · have R := Lib.hid (show Wire.getI bs (at_ : Int) = (Wire.unfold_ ((q + c % 128 * 2 ^ (7 * k)) % 18446744073709551616), (at_ : Int) + ((k + 1 : Nat) : Int), 0) by
                  unfold Wire.getI
                  rw [if_neg (by rw [Hn.out]; omega)]
                  simp only [Int.toNat_natCast]
                  rw [← Hs.out, Hd.out, Wire.scan_good h10 (by omega) (by omega)]
                  rfl)
                generalize (q + c % 128 * 2 ^ (7 * k)) % 18446744073709551616 = q' at *
                have U := fun w => unfolded_any q' w hqlt.out
                by_cases hk9 : k = 9
                · have ha2 : ((k : Int) == 9) = true := by simp; omega
                  have hc1 : c ≤ 1 := by omega
                  have hc2 : ((c : Int) == 0) = false := by simp; omega
                  have ha1 := Lib.hid hk9
                  clear hk9 hbad h9
                  go_wp2_with (go_at_call 27; refine (U _).mono ?_; rintro e w' ⟨rfl, rfl⟩)
                  go_ret3
                  exact ⟨by rw [R.out]; exact trip_ret rfl (by omega) rfl, rfl⟩
                · have ha2 : ((k : Int) == 9) = false := by simp; omega
                  by_cases hk0 : 0 < k
                  · have hc2 : ((c : Int) == 0) = false := by simp; omega
                    clear hbad h9
                    go_wp2_with (go_at_call 27; refine (U _).mono ?_; rintro e w' ⟨rfl, rfl⟩)
                    go_ret3
                    exact ⟨by rw [R.out]; exact trip_ret rfl (by omega) rfl, rfl⟩
                  · clear hbad h9
                    go_wp2_with (go_at_call 27; refine (U _).mono ?_; rintro e w' ⟨rfl, rfl⟩)
                    all_goals
                      go_ret3
                      exact ⟨by rw [R.out]; exact trip_ret rfl (by omega) rfl, rfl⟩
        · have R := Lib.hid (show Wire.getI bs (at_ : Int) = (0, 0, 2) by
            unfold Wire.getI
            rw [if_neg (by rw [Hn.out]; omega)]
            simp only [Int.toNat_natCast]
            rw [← Hs.out, List.drop_eq_nil_of_le (by rw [Hn.out]; omega), Wire.scan, if_pos h10]
            rfl)
          go_wp2
          go_ret3
          exact ⟨by rw [R.out]; exact trip_ret rfl rfl rfl, rfl⟩
      · have R := Lib.hid (show Wire.getI bs (at_ : Int) = (0, 0, 3) by
          unfold Wire.getI
          rw [if_neg (by rw [Hn.out]; omega)]
          simp only [Int.toNat_natCast]
          rw [← Hs.out, Wire.scan_ten h10]
          rfl)
        go_wp2
        go_ret3
        exact ⟨by rw [R.out]; exact trip_ret rfl rfl rfl, rfl⟩

theorem gath_short {l : List Nat} (h : l.length ≤ 1) : Wire.gath l = [] := by
  match l, h with
  | [], _ => rfl
  | [_], _ => rfl
theorem gath_len : ∀ (l : List Nat), (Wire.gath l).length ≤ l.length
  | [] => by simp [Wire.gath]
  | [_] => by simp [Wire.gath]
  | c :: d :: r => by
    simp only [Wire.gath]
    split
    · have := gath_len r; simp only [List.length_cons]; omega
    · have := gath_len (d :: r); simp only [List.length_cons] at *; omega
theorem gath_lt : ∀ (l : List Nat), (∀ c ∈ l, c < 256) → ∀ c ∈ Wire.gath l, c < 256
  | [], _ => by simp [Wire.gath]
  | [_], _ => by simp [Wire.gath]
  | c :: d :: r, h => by
    simp only [Wire.gath]
    intro x hx
    split at hx
    · rcases List.mem_cons.1 hx with rfl | hx
      · exact Nat.xor_lt_two_pow (n := 8) (h d (by simp)) (by omega)
      · exact gath_lt r (fun y hy => h y (by simp [hy])) x hx
    · rcases List.mem_cons.1 hx with rfl | hx
      · exact h _ (by simp)
      · exact gath_lt (d :: r) (fun y hy => h y (by simp [List.mem_cons.1 hy])) x hx

set_option maxRecDepth 100000 in
set_option maxHeartbeats 1000000 in
theorem runstuff_any (x : Option Addr) (n cap : Nat) (bs : List Nat) (w : World) (hr : NRow .u8 w x n cap bs) (hb8 : ∀ c ∈ bs, c < 256) (hsm : n ≤ 1099511627776) :
    Calls Try.prog 21 #[.slice x n cap] w (GivesE w 5 1 (nats .u8 (Wire.unstuff bs).1) (Wire.unstuff bs).2) := by
  rw [← Wire.refUnstuff_eq]
  have hn := hr.length
  have hnc := hr.le
  have hmax := hr.capLe
  unfold maxLen at hmax
  have Hn := Lib.hid hn
  clear hn
  by_cases h2 : n < 2
  · have R : Hid (Wire.refUnstuff bs = ([], 2)) := by unfold Hid Wire.refUnstuff; rw [if_pos (by rw [Hn.out]; exact h2)]
    go_enter Try.func21, Try.ntmps21
    go_wp2
    go_ret2
    rw [R.out]
    exact ⟨none, 0, 0, rfl, Own.none, Below.refl _ _⟩
  · obtain ⟨b, off, rfl, hblt, hc⟩ := hr.pos (by omega)
    have Hc := Lib.hid hc
    clear hc
    go_enter Try.func21, Try.ntmps21
    go_wp2
    go_loopw [4, 5] (fun v i wr => ∃ (j : Nat) (out : List Nat) (x' : Option Addr) (m cap' : Nat), 1 ≤ j ∧ j ≤ n ∧ i = .int .i64 (j : Int) ∧ v = .slice x' m cap' ∧ out.length ≤ j ∧ Wire.gath (bs.drop 1) = out ++ Wire.gath (bs.drop j) ∧ Own wr w.heap.size 5 1 x' m cap' (nats .u8 out) ∧ Below w.heap.size w wr) (fun _ i _ => n - (intOf i).toNat)
    case atStart => exact ⟨1, [], none, 0, 0, by omega, by omega, rfl, rfl, by simp, rfl, Own.none, Below.refl _ _⟩
    case round =>
      obtain ⟨j, out, x', m, cap', hj1, hjn, rfl, rfl, hol, hg, ho, hb⟩ := hrel
      have hm := ho.length
      rw [nats_length] at hm
      have hml : m ≤ 1099511627776 := by omega
      have Hg := Lib.hid hg
      have hsz := hb.size
      clear hg hm
      by_cases h : j < n - 1
      · obtain ⟨c, hcg⟩ := has_get (l := bs) (k := j) (by rw [Hn.out]; omega)
        obtain ⟨d, hdg⟩ := has_get (l := bs) (k := j + 1) (by rw [Hn.out]; omega)
        have hck := ((bcell hb).1 b (off + j) hblt).trans (Hc.out j c hcg)
        have hdk := ((bcell hb).1 b (off + (j + 1)) hblt).trans (Hc.out (j + 1) d hdg)
        have hc8 := hb8 c (mem_get hcg)
        have hd8 := hb8 d (mem_get hdg)
        have Hd := Lib.hid (show bs.drop j = c :: d :: bs.drop (j + 2) by rw [drop_get hcg, drop_get hdg])
        have Hd1 := Lib.hid (show bs.drop (j + 1) = d :: bs.drop (j + 2) from drop_get hdg)
        clear hcg hdg
        by_cases h5 : c = 125
        · have hb5 : ((c : Int) == 125) = true := by simp; omega
          have hx : bits BinOp.xor IntKind.u8 (d : Int) 32 = ((d ^^^ 32 : Nat) : Int) := u8_xor_nat d 32 hd8 (by omega)
          have R := Lib.hid (show Wire.gath (bs.drop 1) = (out ++ [d ^^^ 32]) ++ Wire.gath (bs.drop (j + 2)) by rw [Hg.out, Hd.out, Wire.gath, if_pos h5]; simp)
          have Hx := Lib.hid hx
          have H5 := Lib.hid h5
          clear h5
          generalize d ^^^ 32 = d' at *
          go_wp2_with (at_builtin; refine wpList_app rfl _ _ 22 rfl elemU8 rfl (ho.alloc _) rfl (Own.lit1 _ _ _ (Nat.le_refl _)).row (one_oneCell _ _) (by omega) (maxLen_of (by omega)) (by simp; omega) ?_; intro x1 cap1 w1 ho1 hg1 hb1)
          go_roundw
          case rel => exact ⟨j + 2, out ++ [d'], _, _, _, by omega, by omega, by go_num, rfl, by simp; omega, R.out, by rw [nats_append]; exact ho1, (hb.alloc hsz _).trans hb1⟩
          case measure => simp [intOf]; omega
        · have hb5 : ((c : Int) == 125) = false := by simp; omega
          have R := Lib.hid (show Wire.gath (bs.drop 1) = (out ++ [c]) ++ Wire.gath (bs.drop (j + 1)) by rw [Hg.out, Hd.out, Wire.gath, if_neg h5, Hd1.out]; simp)
          clear h5
          go_wp2_with (at_builtin; refine wpList_app rfl _ _ 22 rfl elemU8 rfl (ho.alloc _) rfl (Own.lit1 _ _ _ (Nat.le_refl _)).row (one_oneCell _ _) (by omega) (maxLen_of (by omega)) (by simp; omega) ?_; intro x1 cap1 w1 ho1 hg1 hb1)
          go_roundw
          case rel => exact ⟨j + 1, out ++ [c], _, _, _, by omega, by omega, by go_num, rfl, by simp; omega, R.out, by rw [nats_append]; exact ho1, (hb.alloc hsz _).trans hb1⟩
          case measure => simp [intOf]; omega
      · have HG := Lib.hid (show Wire.gath (bs.drop 1) = out by rw [Hg.out, gath_short (by rw [List.length_drop, Hn.out]; omega), List.append_nil])
        have hout8 : ∀ c ∈ out, c < 256 := by rw [← HG.out]; exact gath_lt _ (fun c hc => hb8 c (List.mem_of_mem_drop hc))
        have hs8 := Wire.stuff_lt hout8
        have hr2 := hr.later hb
        have ho0 := ho
        have kB : ∀ w', Below wr.heap.size wr w' → (convert 22 9 (.slice (some ⟨b, off, none⟩) n cap)).run Try.prog w' = .ok (.string (str bs)) w' :=
          fun w' hb => run_str w' 22 5 9 Try.underlying22 Try.underlying5 Try.underlying9 (hr2.later hb)
        have hseq := str_beq hs8 hb8
        go_wp2
        by_cases hs : Wire.stuff out = bs
        · have R := Lib.hid (show Wire.refUnstuff bs = (out, 0) by unfold Wire.refUnstuff; rw [if_neg (by rw [Hn.out]; exact h2), HG.out, if_pos hs])
          rw [decide_eq_true hs] at hseq
          refine wp_region_rg' wr (by kernel_rfl) (Below.refl _ _) [35, 36, 37, 38, 39, 40]
            [Is (.slice x' m cap'), (fun v w => ∃ x n cap, v = .slice x n cap ∧ NRow .u8 w x n cap (Wire.stuff out)), Is (.string (str (Wire.stuff out))), Is (.slice (some ⟨b, off, none⟩) n cap), Is (.string (str bs)), Is (.bool false)]
            [(0, .slice (some ⟨b, off, none⟩) n cap), (4, .slice x' m cap')]
            [none, none, none, none, none, none]
            [[4], [35], [36], [0], [38], [37, 39]]
            rfl ?_ (by kernel_rfl) (by kernel_rfl) ⟨rfl, rfl, trivial⟩ ?_ ?_
          · refine ⟨Is.stays _, ?_, Is.stays _, Is.stays _, Is.stays _, Is.stays _, trivial⟩
            rintro v wa wb ⟨x5, n5, cap5, rfl, h5⟩ hb
            exact ⟨x5, n5, cap5, rfl, h5.later hb⟩
          · simp only [List.zip_cons_cons, List.zip_nil_left, List.map_cons, List.map_nil, List.cons_append, List.nil_append, rgAllL, KnownL, List.lookup, Nat.reduceBEq, Is, rgDo, and_true]
            refine ⟨?_, ?_, ?_, ?_, ?_, ?_⟩
            all_goals
              intro A w' hC hK
              have hc : ∀ v, A.eval (.const v) = v := fun _ => rfl
              have hf : ∀ f, A.eval (.func f) = .func (.func f) #[] #[] := fun _ => rfl
              generalize A.eval = ρ at *
              try (simp [go_sem, rgUpon, Is, Below.refl, hc, hf, hK, kB w' hC, hseq]; done)
            · simp [go_sem, rgUpon, Is, hc, hf, hK]
              refine (rstuff_any _ _ _ out _ (ho0.later hC).row hout8 (by omega)).mono ?_
              rintro e w4 ⟨x4, n4, cap4, rfl, ho4, hb4⟩
              exact ⟨_, rfl, hb4, x4, n4, cap4, rfl, ho4.row⟩
            · obtain ⟨x5, n5, cap5, hx, hr5⟩ := hK
              have k5 := run_str (P := Try.prog) w' 22 5 9 Try.underlying22 Try.underlying5 Try.underlying9 hr5
              simp [go_sem, rgUpon, Is, Below.refl, hc, hf, hx, k5]
          · simp only [List.zip_cons_cons, List.zip_nil_left, rgFin]
            intro _ _ _ _ _ v40 w4 hb4 hF
            have hv := hF.2
            subst hv
            clear hF
            simp only [Act.put, List.setIfInBounds_toArray, List.set_cons_zero, List.set_cons_succ]
            go_wp2
            go_ret2
            rw [R.out]
            exact ⟨_, _, _, rfl, ho0.later hb4, hb.trans (hb4.mono hsz)⟩
        · have R := Lib.hid (show Wire.refUnstuff bs = ([], 3) by unfold Wire.refUnstuff; rw [if_neg (by rw [Hn.out]; exact h2), HG.out, if_neg hs])
          rw [decide_eq_false hs] at hseq
          refine wp_region_rg' wr (by kernel_rfl) (Below.refl _ _) [35, 36, 37, 38, 39, 40]
            [Is (.slice x' m cap'), (fun v w => ∃ x n cap, v = .slice x n cap ∧ NRow .u8 w x n cap (Wire.stuff out)), Is (.string (str (Wire.stuff out))), Is (.slice (some ⟨b, off, none⟩) n cap), Is (.string (str bs)), Is (.bool true)]
            [(0, .slice (some ⟨b, off, none⟩) n cap), (4, .slice x' m cap')]
            [none, none, none, none, none, none]
            [[4], [35], [36], [0], [38], [37, 39]]
            rfl ?_ (by kernel_rfl) (by kernel_rfl) ⟨rfl, rfl, trivial⟩ ?_ ?_
          · refine ⟨Is.stays _, ?_, Is.stays _, Is.stays _, Is.stays _, Is.stays _, trivial⟩
            rintro v wa wb ⟨x5, n5, cap5, rfl, h5⟩ hb
            exact ⟨x5, n5, cap5, rfl, h5.later hb⟩
          · simp only [List.zip_cons_cons, List.zip_nil_left, List.map_cons, List.map_nil, List.cons_append, List.nil_append, rgAllL, KnownL, List.lookup, Nat.reduceBEq, Is, rgDo, and_true]
            refine ⟨?_, ?_, ?_, ?_, ?_, ?_⟩
            all_goals
              intro A w' hC hK
              have hc : ∀ v, A.eval (.const v) = v := fun _ => rfl
              have hf : ∀ f, A.eval (.func f) = .func (.func f) #[] #[] := fun _ => rfl
              generalize A.eval = ρ at *
              try (simp [go_sem, rgUpon, Is, Below.refl, hc, hf, hK, kB w' hC, hseq]; done)
            · simp [go_sem, rgUpon, Is, hc, hf, hK]
              refine (rstuff_any _ _ _ out _ (ho0.later hC).row hout8 (by omega)).mono ?_
              rintro e w4 ⟨x4, n4, cap4, rfl, ho4, hb4⟩
              exact ⟨_, rfl, hb4, x4, n4, cap4, rfl, ho4.row⟩
            · obtain ⟨x5, n5, cap5, hx, hr5⟩ := hK
              have k5 := run_str (P := Try.prog) w' 22 5 9 Try.underlying22 Try.underlying5 Try.underlying9 hr5
              simp [go_sem, rgUpon, Is, Below.refl, hc, hf, hx, k5]
          · simp only [List.zip_cons_cons, List.zip_nil_left, rgFin]
            intro _ _ _ _ _ v40 w4 hb4 hF
            have hv := hF.2
            subst hv
            clear hF
            simp only [Act.put, List.setIfInBounds_toArray, List.set_cons_zero, List.set_cons_succ]
            go_wp2
            go_ret2
            rw [R.out]
            exact ⟨none, 0, 0, rfl, Own.none, hb.trans (hb4.mono hsz)⟩
end Go.Proofs.Ytnekjbmhmpfkgaa
