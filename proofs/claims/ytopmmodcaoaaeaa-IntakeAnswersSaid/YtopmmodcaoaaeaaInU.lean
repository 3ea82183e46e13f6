/- The law IntakeAnswers. No condition. -/
import Derived.Test.YtopmmodcaoaaeaaInQ
import Derived.Test.YtopmmodcaoaaeaaSyT
namespace Go.Proofs.Ytopmmodcaoaaeaa
open Go.RowKit Sy
open Go.IntWalk renaming iteOmega → iO, toNatUp → tN
set_option linter.unusedVariables false
set_option linter.unusedSimpArgs false
theorem len_max {n : Nat} (h : n ≤ maxLen) : n ≤ 9223372036854775807 := by unfold maxLen at h; omega
theorem int_in {x : T} (h : InSh (.int .i64) x) : ∃ n, x = .int n ∧ -9223372036854775808 ≤ n ∧ n ≤ 9223372036854775807 := by
  obtain ⟨n, rfl, hw⟩ := insh_int h
  exact ⟨n, rfl, wf_i64 hw⟩
theorem ints_in {x : T} (h : InSh (.sl (.int .i64)) x) : ∃ l, x = encIs l ∧ l.length ≤ 9223372036854775807 ∧ ∀ z ∈ l, -9223372036854775808 ≤ z ∧ z ≤ 9223372036854775807 := by
  obtain ⟨xs, rfl, hl, hx⟩ := insh_sl h
  obtain ⟨l, rfl, hq⟩ := insh_list (en := encI) (Q := fun z => -9223372036854775808 ≤ z ∧ z ≤ 9223372036854775807) (fun y hy => by
    obtain ⟨n, rfl, hw⟩ := int_in hy
    exact ⟨n, rfl, hw⟩) xs hx
  exact ⟨l, rfl, by rw [List.length_map] at hl; exact len_max hl, hq⟩
theorem bytes_in {x : T} (h : InSh (.sl (.int .u8)) x) : ∃ l, x = encUs l ∧ l.length ≤ 9223372036854775807 ∧ ∀ z ∈ l, z < 256 := by
  obtain ⟨xs, rfl, hl, hx⟩ := insh_sl h
  obtain ⟨l, rfl, hq⟩ := insh_list (en := encU) (Q := fun z => z < 256) (fun y hy => by
    obtain ⟨n, rfl, hw⟩ := insh_int hy
    simp [Lit.wf, IntKind.min, IntKind.max, IntKind.signed, IntKind.bits] at hw
    obtain ⟨m, rfl⟩ : ∃ m : Nat, n = (m : Int) := ⟨n.toNat, by omega⟩
    exact ⟨m, rfl, by omega⟩) xs hx
  exact ⟨l, rfl, by rw [List.length_map] at hl; exact len_max hl, hq⟩
theorem newV_small (n : Int) : SmI (newV n).1 := by
  unfold newV
  split
  · exact ⟨by simp, by simp, by simp, by simp⟩
  · exact ⟨by simp, by simp, by simp, by simp⟩
set_option maxRecDepth 100000 in
set_option maxHeartbeats 32000000 in
theorem inAnswers_fn (raw : In) (t : Tg) (b : List Nat) (window : Int) (l : List Int) (hl : l.length ≤ 9223372036854775807) (wl : ∀ z ∈ l, -9223372036854775808 ≤ z ∧ z ≤ 9223372036854775807)
    (hr1 : raw.tail.length ≤ 9223372036854775807) (hr2 : raw.sts.length ≤ 9223372036854775807) (hr8 : ∀ c ∈ raw.tail, c < 256) (hr3 : ∀ w ∈ raw.sts, w.held.length ≤ 9223372036854775807 ∧ ∀ t ∈ w.held, t.vs.length ≤ 17592186044416)
    (hb1 : b.length ≤ 9223372036854775807) (hb8 : ∀ c ∈ b, c < 256) (ht1 : t.vs.length ≤ 9223372036854775807) :
    FnOk Try.prog 6 [.t (encIn raw), .t (encTg t), .t (encUs b), .t (.int window), .t (encIs l)] [] (.t (.bool true)) [] := by
  have ca := inawake_fn
  obtain ⟨r1, r2, r3⟩ := raw
  obtain ⟨t1, t2, t3, t4, t5, tv⟩ := t
  dsimp only at hr1 hr2 hr8 hr3 ht1
  by_cases g1 : 500 < r2.length
  · refine FnOk.intro fact_mixed Try.func6 rfl Try.ntmps6 (by rfl) (by simp) ?_
    repeat (first | (refine nf1_sound rfl ?_; simp [go_sem, ↓iO, iO, tN]; (repeat (refine anI ?_)); try (refine ⟨dcK, ?_⟩)) | ((first | refine itePos (by omega) ?_ | refine iteNeg (by omega) ?_); try simp [go_sem, ↓iO, iO, tN]) | (refine ⟨dcK, ?_⟩))
    refine CallK.fn (ca) [] [] [] (by kernel_rfl) ?_ ?_ ?_ (Or.inl rfl) ?_ <;> simp [go_sem, ↓iO, iO, tN]
    repeat (refine anI ?_)
    try (refine ⟨dcK, ?_⟩)
    repeat (first | (refine nf1_sound rfl ?_; simp [go_sem, ↓iO, iO, tN]; (repeat (refine anI ?_)); try (refine ⟨dcK, ?_⟩)) | ((first | refine itePos (by omega) ?_ | refine iteNeg (by omega) ?_); try simp [go_sem, ↓iO, iO, tN]) | (refine ⟨dcK, ?_⟩))
    first | rw [RetQ_ret] | rw [RetQ_normal]
    refine ⟨[], ?_⟩
    simp [go_sem, ↓iO, iO, tN]
  by_cases g2 : 80 < r3.length
  · refine FnOk.intro fact_mixed Try.func6 rfl Try.ntmps6 (by rfl) (by simp) ?_
    repeat (first | (refine nf1_sound rfl ?_; simp [go_sem, ↓iO, iO, tN]; (repeat (refine anI ?_)); try (refine ⟨dcK, ?_⟩)) | ((first | refine itePos (by omega) ?_ | refine iteNeg (by omega) ?_); try simp [go_sem, ↓iO, iO, tN]) | (refine ⟨dcK, ?_⟩))
    refine CallK.fn (ca) [] [] [] (by kernel_rfl) ?_ ?_ ?_ (Or.inl rfl) ?_ <;> simp [go_sem, ↓iO, iO, tN]
    repeat (refine anI ?_)
    try (refine ⟨dcK, ?_⟩)
    repeat (first | (refine nf1_sound rfl ?_; simp [go_sem, ↓iO, iO, tN]; (repeat (refine anI ?_)); try (refine ⟨dcK, ?_⟩)) | ((first | refine itePos (by omega) ?_ | refine iteNeg (by omega) ?_); try simp [go_sem, ↓iO, iO, tN]) | (refine ⟨dcK, ?_⟩))
    first | rw [RetQ_ret] | rw [RetQ_normal]
    refine ⟨[], ?_⟩
    simp [go_sem, ↓iO, iO, tN]
  by_cases g3 : 60 < tv.length
  · refine FnOk.intro fact_mixed Try.func6 rfl Try.ntmps6 (by rfl) (by simp) ?_
    repeat (first | (refine nf1_sound rfl ?_; simp [go_sem, ↓iO, iO, tN]; (repeat (refine anI ?_)); try (refine ⟨dcK, ?_⟩)) | ((first | refine itePos (by omega) ?_ | refine iteNeg (by omega) ?_); try simp [go_sem, ↓iO, iO, tN]) | (refine ⟨dcK, ?_⟩))
    refine CallK.fn (ca) [] [] [] (by kernel_rfl) ?_ ?_ ?_ (Or.inl rfl) ?_ <;> simp [go_sem, ↓iO, iO, tN]
    repeat (refine anI ?_)
    try (refine ⟨dcK, ?_⟩)
    repeat (first | (refine nf1_sound rfl ?_; simp [go_sem, ↓iO, iO, tN]; (repeat (refine anI ?_)); try (refine ⟨dcK, ?_⟩)) | ((first | refine itePos (by omega) ?_ | refine iteNeg (by omega) ?_); try simp [go_sem, ↓iO, iO, tN]) | (refine ⟨dcK, ?_⟩))
    first | rw [RetQ_ret] | rw [RetQ_normal]
    refine ⟨[], ?_⟩
    simp [go_sem, ↓iO, iO, tN]
  by_cases g4 : 1000 < b.length
  · refine FnOk.intro fact_mixed Try.func6 rfl Try.ntmps6 (by rfl) (by simp) ?_
    repeat (first | (refine nf1_sound rfl ?_; simp [go_sem, ↓iO, iO, tN]; (repeat (refine anI ?_)); try (refine ⟨dcK, ?_⟩)) | ((first | refine itePos (by omega) ?_ | refine iteNeg (by omega) ?_); try simp [go_sem, ↓iO, iO, tN]) | (refine ⟨dcK, ?_⟩))
    refine CallK.fn (ca) [] [] [] (by kernel_rfl) ?_ ?_ ?_ (Or.inl rfl) ?_ <;> simp [go_sem, ↓iO, iO, tN]
    repeat (refine anI ?_)
    try (refine ⟨dcK, ?_⟩)
    repeat (first | (refine nf1_sound rfl ?_; simp [go_sem, ↓iO, iO, tN]; (repeat (refine anI ?_)); try (refine ⟨dcK, ?_⟩)) | ((first | refine itePos (by omega) ?_ | refine iteNeg (by omega) ?_); try simp [go_sem, ↓iO, iO, tN]) | (refine ⟨dcK, ?_⟩))
    first | rw [RetQ_ret] | rw [RetQ_normal]
    refine ⟨[], ?_⟩
    simp [go_sem, ↓iO, iO, tN]
  have hnl := new_fn l hl
  have hsr := new_ok wl
  obtain ⟨W, hW⟩ : ∃ W, newL2 l = W := ⟨_, rfl⟩
  rw [hW] at hnl hsr
  clear hW wl
  obtain ⟨K1, c, n1, hK1, hc1, hn1, cs1⟩ := stream_ex hsr
  obtain ⟨hcl, hc8⟩ := hc1.len
  obtain ⟨K2, win, n2, bs, hK2, hwin, hbs, hn2, cst⟩ := state_ex hK1
  have hi0 : InOk ⟨win, [], []⟩ := inOk_of (by dsimp only; omega) (by dsimp only; omega) (by simp) (by simp) (.inl rfl) (by simp) trivial
  have hso := feedV_ok hi0 bs
  have hs8 := feedV_8 (i := ⟨win, [], []⟩) (b := bs) (by simp) hbs.len.2
  obtain ⟨s, hs⟩ : ∃ s, (feedV ⟨win, [], []⟩ bs).1 = s := ⟨_, rfl⟩
  rw [hs] at cst hso hs8
  have hsm := hso.small hs8
  obtain ⟨K3, o, hK3, hom, codd⟩ := odd_ex hK2 s hsm ⟨by have := hso.sl; omega, fun w hw => by have := (hso.each w hw).2.2.2.2.2.2.1; have := hso.wx; omega⟩
  clear hs hbs hso hs8 hi0 hwin hc1
  have hnw := newV_small window
  obtain ⟨nw, ne, hnV⟩ : ∃ i e, newV window = (i, e) := ⟨_, _, rfl⟩
  have cn1 := inew_fn window nw ne hnV
  have cn2 := irnew_fn window nw ne hnV
  rw [hnV] at hnw
  have cn3 := hnw.same
  clear hnw hnV
  obtain ⟨cb, hcb⟩ : ∃ cb, c ++ b = cb := ⟨_, rfl⟩
  have hcbl : cb.length ≤ 20000 := by rw [← hcb, List.length_append]; omega
  obtain ⟨xs, hxs⟩ : ∃ xs : List (List Nat), xs = [b, c, cb] := ⟨_, rfl⟩
  have hxl : xs.length = 3 := by rw [hxs]; rfl
  have hx8 : ∀ x ∈ xs, x.length ≤ 20000 ∧ ∀ z ∈ x, z < 256 := fun x hx => by
    rw [hxs] at hx
    simp only [List.mem_cons, List.not_mem_nil, or_false] at hx
    rcases hx with rfl | rfl | rfl
    · exact ⟨by omega, hb8⟩
    · exact ⟨by omega, hc8⟩
    · refine ⟨hcbl, fun z hz => ?_⟩
      rw [← hcb] at hz
      rcases List.mem_append.1 hz with h | h
      · exact hc8 z h
      · exact hb8 z h
  have hxm : xs.map encUs = [encUs b, encUs c, encUs cb] := by rw [hxs]; rfl
  clear hxs
  have happ : c.map encU ++ b.map encU = cb.map encU := by rw [← hcb, List.map_append]
  clear hcb
  obtain ⟨us, hus⟩ : ∃ us : List (List Nat), us = [b, c] := ⟨_, rfl⟩
  have hul : us.length = 2 := by rw [hus]; rfl
  have hu8 : ∀ x ∈ us, x.length ≤ 20000 ∧ ∀ z ∈ x, z < 256 := fun x hx => by
    rw [hus] at hx
    simp only [List.mem_cons, List.not_mem_nil, or_false] at hx
    rcases hx with rfl | rfl
    · exact ⟨by omega, hb8⟩
    · exact ⟨by omega, hc8⟩
  have hum : us.map encUs = [encUs b, encUs c] := by rw [hus]; rfl
  clear hus
  refine FnOk.intro fact_mixed Try.func6 rfl Try.ntmps6 (by rfl) (by simp) ?_
  repeat (first | (refine nf1_sound rfl ?_; simp [go_sem, ↓iO, iO, tN]; (repeat (refine anI ?_)); try (refine ⟨dcK, ?_⟩)) | ((first | refine itePos (by omega) ?_ | refine iteNeg (by omega) ?_); try simp [go_sem, ↓iO, iO, tN]) | (refine ⟨dcK, ?_⟩))
  refine nf1_sound' _ _ _ ?_; simp only [nf1]
  refine CW.loop (ι := Nat) (fun k => ⟨[(2, .t (encUs b)), (3, .t (.int window)), (4, .t (encIs l)), (5, .pt 505 [] 0), (6, .pt 506 [] 0), (69, .t (.int r3.length)), (70, .t (.int k))], [(505, .box 29 (.t (.agg [.int r1, encUs r2, encWts r3]))), (506, .box 38 (.t (.agg [.int t1, .int t2, .int t3, .int t4, .int t5, encIs tv])))]⟩) (fun k => k ≤ r3.length ∧ ∀ j w, j < k → r3[j]? = some w → w.held.length ≤ 30) (fun k => r3.length - k) 0 [(505, some 105), (506, some 106)] ⟨Nat.zero_le _, fun j w h => by omega⟩ ?_ ?_
  · simp [go_sem, ↓iO, iO, tN]
  rintro k ⟨hk, hall⟩
  by_cases hkl : k < r3.length
  · obtain ⟨w, hw⟩ := has_get hkl
    have hwl := (hr3 w (mem_get hw)).1
    obtain ⟨w1, w2, w3, w4⟩ := w
    dsimp only at hwl
    by_cases h30 : 30 < w4.length
    · repeat (first | (refine nf1_sound rfl ?_; simp [go_sem, ↓iO, iO, tN, hw]; (repeat (refine anI ?_)); try (refine ⟨dcK, ?_⟩)) | ((first | refine itePos (by omega) ?_ | refine iteNeg (by omega) ?_); try simp [go_sem, ↓iO, iO, tN, hw]) | (refine ⟨dcK, ?_⟩))
      refine CallK.fn (ca) [] [] [] (by kernel_rfl) ?_ ?_ ?_ (Or.inl rfl) ?_ <;> simp [go_sem, ↓iO, iO, tN]
      repeat (refine anI ?_)
      try (refine ⟨dcK, ?_⟩)
      repeat (first | (refine nf1_sound rfl ?_; simp [go_sem, ↓iO, iO, tN]; (repeat (refine anI ?_)); try (refine ⟨dcK, ?_⟩)) | ((first | refine itePos (by omega) ?_ | refine iteNeg (by omega) ?_); try simp [go_sem, ↓iO, iO, tN]) | (refine ⟨dcK, ?_⟩))
      first | rw [RetQ_ret] | rw [RetQ_normal]
      refine ⟨[], ?_⟩
      simp [go_sem, ↓iO, iO, tN]
    · repeat (first | (refine nf1_sound rfl ?_; simp [go_sem, ↓iO, iO, tN, hw]; (repeat (refine anI ?_)); try (refine ⟨dcK, ?_⟩)) | ((first | refine itePos (by omega) ?_ | refine iteNeg (by omega) ?_); try simp [go_sem, ↓iO, iO, tN, hw]) | (refine ⟨dcK, ?_⟩))
      rw [RoundQ_normal]; refine ⟨k + 1, [(505, some 505), (506, some 506)], ?_, ?_, ?_⟩
      · refine ⟨by omega, fun j x hj hx => ?_⟩
        by_cases e : j < k
        · exact hall j x e hx
        · obtain rfl : j = k := by omega
          rw [hw] at hx
          cases hx
          dsimp only; omega
      · omega
      simp [go_sem, ↓iO, iO, tN]
  obtain rfl : k = r3.length := by omega
  have hrm : SmI ⟨r1, r2, r3⟩ := ⟨by dsimp only; omega, hr8, by dsimp only; omega, fun w hw => by
    obtain ⟨j, hj⟩ := List.mem_iff_getElem?.1 hw
    have := hall j w (List.getElem?_eq_some_iff.1 hj).1 hj
    exact ⟨by omega, (hr3 w hw).2⟩⟩
  clear hall hr3 hr8 hkl hk
  obtain ⟨ys, hys⟩ : ∃ ys : List In, ys = [⟨r1, r2, r3⟩, s, o] := ⟨_, rfl⟩
  have hyl : ys.length = 3 := by rw [hys]; rfl
  have hym : ∀ y ∈ ys, SmI y := fun y hy => by
    rw [hys] at hy
    simp only [List.mem_cons, List.not_mem_nil, or_false] at hy
    rcases hy with rfl | rfl | rfl
    · exact hrm
    · exact hsm
    · exact hom
  obtain ⟨s1, s2, s3⟩ := s
  obtain ⟨o1, o2, o3⟩ := o
  have hyn : ys.map encIn = [.agg [.int r1, encUs r2, encWts r3], .agg [.int s1, encUs s2, encWts s3], .agg [.int o1, encUs o2, encWts o3]] := by rw [hys]; rfl
  clear hys hrm hsm hom
  obtain ⟨nw1, nw2, nw3⟩ := nw
  repeat (first | (refine nf1_sound rfl ?_; simp [go_sem, ↓iO, iO, tN]; (repeat (refine anI ?_)); try (refine ⟨dcK, ?_⟩)) | ((first | refine itePos (by omega) ?_ | refine iteNeg (by omega) ?_); try simp [go_sem, ↓iO, iO, tN]) | (refine ⟨dcK, ?_⟩))
  refine CallK.fn (hnl) [(1000, 605)] [] [] (by kernel_rfl) ?_ ?_ ?_ (Or.inl rfl) ?_ <;> simp [go_sem, ↓iO, iO, tN]
  repeat (refine anI ?_)
  try (refine ⟨dcK, ?_⟩)
  repeat (first | (refine nf1_sound rfl ?_; simp [go_sem, ↓iO, iO, tN]; (repeat (refine anI ?_)); try (refine ⟨dcK, ?_⟩)) | ((first | refine itePos (by omega) ?_ | refine iteNeg (by omega) ?_); try simp [go_sem, ↓iO, iO, tN]) | (refine ⟨dcK, ?_⟩))
  refine CallK.fn (cs1) [(0, 605), (1000, 613)] [] [] (by kernel_rfl) ?_ ?_ ?_ (Or.inl rfl) ?_ <;> simp [go_sem, ↓iO, iO, tN]
  repeat (refine anI ?_)
  try (refine ⟨dcK, ?_⟩)
  refine nf_sound [11] _ _ _ ?_
  simp (maxSteps := 2000000) [go_sem, ↓iO, iO, tN, go_sem, stops, firstReg]
  refine CW.weak (ρ := [(505, some 505), (506, some 506), (512, some 605)]) (σ' := ⟨[(2, .t (encUs b)), (3, .t (.int window)), (5, .pt 505 [] 0), (6, .pt 506 [] 0), (12, .pt 512 [] 0), (13, .t (encUs c))], [(505, .box 29 (.t (.agg [.int r1, encUs r2, encWts r3]))), (506, .box 38 (.t (.agg [.int t1, .int t2, .int t3, .int t4, .int t5, encIs tv]))), (512, srcB W K1)]⟩) ?_ ?_
  · simp [go_sem, ↓iO, iO, tN, wkXs]
  repeat (first | (refine nf1_sound rfl ?_; simp [go_sem, ↓iO, iO, tN, happ]; (repeat (refine anI ?_)); try (refine ⟨dcK, ?_⟩)) | ((first | refine itePos (by omega) ?_ | refine iteNeg (by omega) ?_); try simp [go_sem, ↓iO, iO, tN, happ]) | (refine ⟨dcK, ?_⟩))
  refine nf1_sound' _ _ _ ?_; simp only [nf1]
  refine CW.loop (ι := Nat) (fun k => ⟨[(2, .t (encUs b)), (3, .t (.int window)), (5, .pt 505 [] 0), (6, .pt 506 [] 0), (12, .pt 512 [] 0), (13, .t (encUs c)), (94, .t (.sl 1 (xs.map encUs))), (95, .t (.int 3)), (96, .t (.int k))], [(505, .box 29 (.t (.agg [.int r1, encUs r2, encWts r3]))), (506, .box 38 (.t (.agg [.int t1, .int t2, .int t3, .int t4, .int t5, encIs tv]))), (512, srcB W K1)]⟩) (fun k => k ≤ 3) (fun k => 3 - k) 0 [(505, some 505), (506, some 506), (512, some 512)] (by omega) ?_ ?_
  · simp [go_sem, ↓iO, iO, tN, wkXs, hxm]
  intro k hk
  by_cases hk3 : k < 3
  · obtain ⟨x, hx⟩ := has_get (show k < xs.length by omega)
    obtain ⟨hxb, hx8'⟩ := hx8 x (mem_get hx)
    have c1 := frames_fn x (by omega) hx8'
    have c2 := rframes_fn x (by omega) hx8'
    have c3 := inlists_fn (frV x) (by have := frV_len x; omega) (fun f hf => by have := (frV_mem hf).1; omega)
    have htl := (tlV_mem x).1
    obtain ⟨F, hF⟩ : ∃ F, frV x = F := ⟨_, rfl⟩
    obtain ⟨T, hT⟩ : ∃ F, tlV x = F := ⟨_, rfl⟩
    obtain ⟨D, hD⟩ : ∃ F, dmV x = F := ⟨_, rfl⟩
    rw [hF, hT, hD] at c1 c2
    rw [hF] at c3
    rw [hT] at htl
    repeat (first | (refine nf1_sound rfl ?_; simp [go_sem, ↓iO, iO, tN, hx, hxl]; (repeat (refine anI ?_)); try (refine ⟨dcK, ?_⟩)) | ((first | refine itePos (by omega) ?_ | refine iteNeg (by omega) ?_); try simp [go_sem, ↓iO, iO, tN, hx, hxl]) | (refine ⟨dcK, ?_⟩))
    refine CallK.fn (c1) [] [] [] (by kernel_rfl) ?_ ?_ ?_ (Or.inl rfl) ?_ <;> simp [go_sem, ↓iO, iO, tN]
    repeat (refine anI ?_)
    try (refine ⟨dcK, ?_⟩)
    repeat (first | (refine nf1_sound rfl ?_; simp [go_sem, ↓iO, iO, tN]; (repeat (refine anI ?_)); try (refine ⟨dcK, ?_⟩)) | ((first | refine itePos (by omega) ?_ | refine iteNeg (by omega) ?_); try simp [go_sem, ↓iO, iO, tN]) | (refine ⟨dcK, ?_⟩))
    refine CallK.fn (c2) [] [] [] (by kernel_rfl) ?_ ?_ ?_ (Or.inl rfl) ?_ <;> simp [go_sem, ↓iO, iO, tN]
    repeat (refine anI ?_)
    try (refine ⟨dcK, ?_⟩)
    repeat (first | (refine nf1_sound rfl ?_; simp [go_sem, ↓iO, iO, tN]; (repeat (refine anI ?_)); try (refine ⟨dcK, ?_⟩)) | ((first | refine itePos (by omega) ?_ | refine iteNeg (by omega) ?_); try simp [go_sem, ↓iO, iO, tN]) | (refine ⟨dcK, ?_⟩))
    refine CallK.fn (c3) [] [] [] (by kernel_rfl) ?_ ?_ ?_ (Or.inl rfl) ?_ <;> simp [go_sem, ↓iO, iO, tN]
    repeat (refine anI ?_)
    try (refine ⟨dcK, ?_⟩)
    repeat (first | (refine nf1_sound rfl ?_; simp [go_sem, ↓iO, iO, tN]; (repeat (refine anI ?_)); try (refine ⟨dcK, ?_⟩)) | ((first | refine itePos (by omega) ?_ | refine iteNeg (by omega) ?_); try simp [go_sem, ↓iO, iO, tN]) | (refine ⟨dcK, ?_⟩))
    rw [RoundQ_normal]; refine ⟨k + 1, [(505, some 505), (506, some 506), (512, some 512)], ?_, ?_, ?_⟩
    · omega
    · omega
    simp [go_sem, ↓iO, iO, tN]
  obtain rfl : k = 3 := by omega
  repeat (first | (refine nf1_sound rfl ?_; simp [go_sem, ↓iO, iO, tN]; (repeat (refine anI ?_)); try (refine ⟨dcK, ?_⟩)) | ((first | refine itePos (by omega) ?_ | refine iteNeg (by omega) ?_); try simp [go_sem, ↓iO, iO, tN]) | (refine ⟨dcK, ?_⟩))
  refine CallK.fn (cn1) [] [] [] (by kernel_rfl) ?_ ?_ ?_ (Or.inl rfl) ?_ <;> simp [go_sem, ↓iO, iO, tN]
  repeat (refine anI ?_)
  try (refine ⟨dcK, ?_⟩)
  repeat (first | (refine nf1_sound rfl ?_; simp [go_sem, ↓iO, iO, tN]; (repeat (refine anI ?_)); try (refine ⟨dcK, ?_⟩)) | ((first | refine itePos (by omega) ?_ | refine iteNeg (by omega) ?_); try simp [go_sem, ↓iO, iO, tN]) | (refine ⟨dcK, ?_⟩))
  refine CallK.fn (cn2) [] [] [] (by kernel_rfl) ?_ ?_ ?_ (Or.inl rfl) ?_ <;> simp [go_sem, ↓iO, iO, tN]
  repeat (refine anI ?_)
  try (refine ⟨dcK, ?_⟩)
  repeat (first | (refine nf1_sound rfl ?_; simp [go_sem, ↓iO, iO, tN]; (repeat (refine anI ?_)); try (refine ⟨dcK, ?_⟩)) | ((first | refine itePos (by omega) ?_ | refine iteNeg (by omega) ?_); try simp [go_sem, ↓iO, iO, tN]) | (refine ⟨dcK, ?_⟩))
  refine CallK.fn (cn3) [] [] [] (by kernel_rfl) ?_ ?_ ?_ (Or.inl rfl) ?_ <;> simp [go_sem, ↓iO, iO, tN]
  repeat (refine anI ?_)
  try (refine ⟨dcK, ?_⟩)
  repeat (first | (refine nf1_sound rfl ?_; simp [go_sem, ↓iO, iO, tN]; (repeat (refine anI ?_)); try (refine ⟨dcK, ?_⟩)) | ((first | refine itePos (by omega) ?_ | refine iteNeg (by omega) ?_); try simp [go_sem, ↓iO, iO, tN]) | (refine ⟨dcK, ?_⟩))
  refine CallK.fn (cst) [(0, 512)] [] [] (by kernel_rfl) ?_ ?_ ?_ (Or.inl rfl) ?_ <;> simp [go_sem, ↓iO, iO, tN]
  repeat (refine anI ?_)
  try (refine ⟨dcK, ?_⟩)
  repeat (first | (refine nf1_sound rfl ?_; simp [go_sem, ↓iO, iO, tN]; (repeat (refine anI ?_)); try (refine ⟨dcK, ?_⟩)) | ((first | refine itePos (by omega) ?_ | refine iteNeg (by omega) ?_); try simp [go_sem, ↓iO, iO, tN]) | (refine ⟨dcK, ?_⟩))
  refine CallK.fn (codd) [(0, 512)] [] [] (by kernel_rfl) ?_ ?_ ?_ (Or.inl rfl) ?_ <;> simp [go_sem, ↓iO, iO, tN]
  repeat (refine anI ?_)
  try (refine ⟨dcK, ?_⟩)
  repeat (first | (refine nf1_sound rfl ?_; simp [go_sem, ↓iO, iO, tN]; (repeat (refine anI ?_)); try (refine ⟨dcK, ?_⟩)) | ((first | refine itePos (by omega) ?_ | refine iteNeg (by omega) ?_); try simp [go_sem, ↓iO, iO, tN]) | (refine ⟨dcK, ?_⟩))
  refine nf1_sound' _ _ _ ?_; simp only [nf1]
  refine CW.loop (ι := Nat × Nat) (fun j => ⟨[(2, .t (encUs b)), (6, .pt 506 [] 0), (12, .pt 512 [] 0), (13, .t (encUs c)), (155, .t (.sl 3 (ys.map encIn))), (156, .t (.int 3)), (157, .t (.int j.2))], [(506, .box 38 (.t (.agg [.int t1, .int t2, .int t3, .int t4, .int t5, encIs tv]))), (512, srcB W j.1)]⟩) (fun j => SrcOk W j.1 ∧ j.2 ≤ 3) (fun j => 3 - j.2) (K3, 0) [(506, some 506), (512, some 512)] ⟨hK3, by simp⟩ ?_ ?_
  · simp [go_sem, ↓iO, iO, tN, wkXs, hyn]
  rintro ⟨K, k⟩ ⟨hK, hk⟩
  dsimp only at hK hk ⊢
  by_cases hk3 : k < 3
  · obtain ⟨y, hy⟩ := has_get (show k < ys.length by omega)
    have hyS := hym y (mem_get hy)
    obtain ⟨st, hst, d1⟩ := n_ex hK 4 (by omega) (by omega)
    obtain ⟨K4, tt, hK4, htt, hts, _, d2⟩ := telegram_ex2 hK.next st (by omega)
    have httl := htt.ln
    obtain ⟨zs, hzs⟩ : ∃ zs : List Tg, zs = [⟨t1, t2, t3, t4, t5, tv⟩, tt] := ⟨_, rfl⟩
    have hzl : zs.length = 2 := by rw [hzs]; rfl
    have hzv : ∀ z ∈ zs, z.vs.length ≤ 1000000 := fun z hz => by
      rw [hzs] at hz
      simp only [List.mem_cons, List.not_mem_nil, or_false] at hz
      rcases hz with rfl | rfl
      · dsimp only; omega
      · omega
    have hacc := fun z (hz : z ∈ zs) => accept_two hyS (hzv z hz)
    have hfee := fun x (hx : x ∈ us) => feeds_two hyS (b := x) (by have := (hu8 x hx).1; omega) (hu8 x hx).2
    obtain ⟨y1, y2, y3⟩ := y
    obtain ⟨z1, z2, z3, z4, z5, zv⟩ := tt
    dsimp only at hts
    subst hts
    have hzm : zs.map encTg = [.agg [.int t1, .int t2, .int t3, .int t4, .int t5, encIs tv], .agg [.int z1, .int z2, .int z3, .int z4, .int z5, encIs zv]] := by rw [hzs]; rfl
    clear hzs hzv hyS htt
    repeat (first | (refine nf1_sound rfl ?_; simp [go_sem, ↓iO, iO, tN, hy, hyl]; (repeat (refine anI ?_)); try (refine ⟨dcK, ?_⟩)) | ((first | refine itePos (by omega) ?_ | refine iteNeg (by omega) ?_); try simp [go_sem, ↓iO, iO, tN, hy, hyl]) | (refine ⟨dcK, ?_⟩))
    refine CallK.fn (d1) [(0, 512)] [] [] (by kernel_rfl) ?_ ?_ ?_ (Or.inl rfl) ?_ <;> simp [go_sem, ↓iO, iO, tN]
    repeat (refine anI ?_)
    try (refine ⟨dcK, ?_⟩)
    refine CallK.fn (d2) [(0, 512), (1000, 665)] [] [] (by kernel_rfl) ?_ ?_ ?_ (Or.inl rfl) ?_ <;> simp [go_sem, ↓iO, iO, tN]
    repeat (refine anI ?_)
    try (refine ⟨dcK, ?_⟩)
    repeat (first | (refine nf1_sound rfl ?_; simp [go_sem, ↓iO, iO, tN]; (repeat (refine anI ?_)); try (refine ⟨dcK, ?_⟩)) | ((first | refine itePos (by omega) ?_ | refine iteNeg (by omega) ?_); try simp [go_sem, ↓iO, iO, tN]) | (refine ⟨dcK, ?_⟩))
    refine nf1_sound' _ _ _ ?_; simp only [nf1]
    refine CW.loop (ι := Nat) (fun j => ⟨[(2, .t (encUs b)), (6, .pt 506 [] 0), (12, .pt 512 [] 0), (13, .t (encUs c)), (28, .pt 528 [] 0), (155, .t (.sl 3 (ys.map encIn))), (156, .t (.int 3)), (157, .t (.int k)), (166, .t (.sl 6 (zs.map encTg))), (167, .t (.int 2)), (168, .t (.int j))], [(506, .box 38 (.t (.agg [.int t1, .int t2, .int t3, .int t4, .int t5, encIs tv]))), (512, srcB W K4), (528, .box 29 (.t (.agg [.int y1, encUs y2, encWts y3])))]⟩) (fun j => j ≤ 2) (fun j => 2 - j) 0 [(506, some 506), (512, some 512), (528, some 128)] (by omega) ?_ ?_
    · simp [go_sem, ↓iO, iO, tN, wkXs, hzm]
    intro j hj
    by_cases hj2 : j < 2
    · obtain ⟨z, hz⟩ := has_get (show j < zs.length by omega)
      obtain ⟨a, g, e, e1, e2, e3, e4⟩ := hacc z (mem_get hz)
      obtain ⟨a1, a2, a3⟩ := a
      obtain ⟨q1, q2, q3, q4, q5, qv⟩ := z
      repeat (first | (refine nf1_sound rfl ?_; simp [go_sem, ↓iO, iO, tN, hz, hzl]; (repeat (refine anI ?_)); try (refine ⟨dcK, ?_⟩)) | ((first | refine itePos (by omega) ?_ | refine iteNeg (by omega) ?_); try simp [go_sem, ↓iO, iO, tN, hz, hzl]) | (refine ⟨dcK, ?_⟩))
      refine CallK.fn (e1) [] [] [] (by kernel_rfl) ?_ ?_ ?_ (Or.inl rfl) ?_ <;> simp [go_sem, ↓iO, iO, tN]
      repeat (refine anI ?_)
      try (refine ⟨dcK, ?_⟩)
      repeat (first | (refine nf1_sound rfl ?_; simp [go_sem, ↓iO, iO, tN]; (repeat (refine anI ?_)); try (refine ⟨dcK, ?_⟩)) | ((first | refine itePos (by omega) ?_ | refine iteNeg (by omega) ?_); try simp [go_sem, ↓iO, iO, tN]) | (refine ⟨dcK, ?_⟩))
      refine CallK.fn (e2) [] [] [] (by kernel_rfl) ?_ ?_ ?_ (Or.inl rfl) ?_ <;> simp [go_sem, ↓iO, iO, tN]
      repeat (refine anI ?_)
      try (refine ⟨dcK, ?_⟩)
      repeat (first | (refine nf1_sound rfl ?_; simp [go_sem, ↓iO, iO, tN]; (repeat (refine anI ?_)); try (refine ⟨dcK, ?_⟩)) | ((first | refine itePos (by omega) ?_ | refine iteNeg (by omega) ?_); try simp [go_sem, ↓iO, iO, tN]) | (refine ⟨dcK, ?_⟩))
      refine CallK.fn (e3) [] [] [] (by kernel_rfl) ?_ ?_ ?_ (Or.inl rfl) ?_ <;> simp [go_sem, ↓iO, iO, tN]
      repeat (refine anI ?_)
      try (refine ⟨dcK, ?_⟩)
      refine CallK.fn (e4) [] [] [] (by kernel_rfl) ?_ ?_ ?_ (Or.inl rfl) ?_ <;> simp [go_sem, ↓iO, iO, tN]
      repeat (refine anI ?_)
      try (refine ⟨dcK, ?_⟩)
      repeat (first | (refine nf1_sound rfl ?_; simp [go_sem, ↓iO, iO, tN]; (repeat (refine anI ?_)); try (refine ⟨dcK, ?_⟩)) | ((first | refine itePos (by omega) ?_ | refine iteNeg (by omega) ?_); try simp [go_sem, ↓iO, iO, tN]) | (refine ⟨dcK, ?_⟩))
      rw [RoundQ_normal]; refine ⟨j + 1, [(506, some 506), (512, some 512), (528, some 528)], ?_, ?_, ?_⟩
      · omega
      · omega
      simp [go_sem, ↓iO, iO, tN]
    obtain rfl : j = 2 := by omega
    repeat (first | (refine nf1_sound rfl ?_; simp [go_sem, ↓iO, iO, tN]; (repeat (refine anI ?_)); try (refine ⟨dcK, ?_⟩)) | ((first | refine itePos (by omega) ?_ | refine iteNeg (by omega) ?_); try simp [go_sem, ↓iO, iO, tN]) | (refine ⟨dcK, ?_⟩))
    refine nf1_sound' _ _ _ ?_; simp only [nf1]
    refine CW.loop (ι := Nat) (fun j => ⟨[(2, .t (encUs b)), (6, .pt 506 [] 0), (12, .pt 512 [] 0), (13, .t (encUs c)), (28, .pt 528 [] 0), (155, .t (.sl 3 (ys.map encIn))), (156, .t (.int 3)), (157, .t (.int k)), (204, .t (.sl 1 (us.map encUs))), (205, .t (.int 2)), (206, .t (.int j))], [(506, .box 38 (.t (.agg [.int t1, .int t2, .int t3, .int t4, .int t5, encIs tv]))), (512, srcB W K4), (528, .box 29 (.t (.agg [.int y1, encUs y2, encWts y3])))]⟩) (fun j => j ≤ 2) (fun j => 2 - j) 0 [(506, some 506), (512, some 512), (528, some 528)] (by omega) ?_ ?_
    · simp [go_sem, ↓iO, iO, tN, wkXs, hum]
    intro j hj
    by_cases hj2 : j < 2
    · obtain ⟨x, hx⟩ := has_get (show j < us.length by omega)
      obtain ⟨a, g, e, e1, e2, e3, e4⟩ := hfee x (mem_get hx)
      obtain ⟨a1, a2, a3⟩ := a
      repeat (first | (refine nf1_sound rfl ?_; simp [go_sem, ↓iO, iO, tN, hx, hul]; (repeat (refine anI ?_)); try (refine ⟨dcK, ?_⟩)) | ((first | refine itePos (by omega) ?_ | refine iteNeg (by omega) ?_); try simp [go_sem, ↓iO, iO, tN, hx, hul]) | (refine ⟨dcK, ?_⟩))
      refine CallK.fn (e1) [] [] [] (by kernel_rfl) ?_ ?_ ?_ (Or.inl rfl) ?_ <;> simp [go_sem, ↓iO, iO, tN]
      repeat (refine anI ?_)
      try (refine ⟨dcK, ?_⟩)
      repeat (first | (refine nf1_sound rfl ?_; simp [go_sem, ↓iO, iO, tN]; (repeat (refine anI ?_)); try (refine ⟨dcK, ?_⟩)) | ((first | refine itePos (by omega) ?_ | refine iteNeg (by omega) ?_); try simp [go_sem, ↓iO, iO, tN]) | (refine ⟨dcK, ?_⟩))
      refine CallK.fn (e2) [] [] [] (by kernel_rfl) ?_ ?_ ?_ (Or.inl rfl) ?_ <;> simp [go_sem, ↓iO, iO, tN]
      repeat (refine anI ?_)
      try (refine ⟨dcK, ?_⟩)
      repeat (first | (refine nf1_sound rfl ?_; simp [go_sem, ↓iO, iO, tN]; (repeat (refine anI ?_)); try (refine ⟨dcK, ?_⟩)) | ((first | refine itePos (by omega) ?_ | refine iteNeg (by omega) ?_); try simp [go_sem, ↓iO, iO, tN]) | (refine ⟨dcK, ?_⟩))
      refine CallK.fn (e3) [] [] [] (by kernel_rfl) ?_ ?_ ?_ (Or.inl rfl) ?_ <;> simp [go_sem, ↓iO, iO, tN]
      repeat (refine anI ?_)
      try (refine ⟨dcK, ?_⟩)
      refine CallK.fn (e4) [] [] [] (by kernel_rfl) ?_ ?_ ?_ (Or.inl rfl) ?_ <;> simp [go_sem, ↓iO, iO, tN]
      repeat (refine anI ?_)
      try (refine ⟨dcK, ?_⟩)
      repeat (first | (refine nf1_sound rfl ?_; simp [go_sem, ↓iO, iO, tN]; (repeat (refine anI ?_)); try (refine ⟨dcK, ?_⟩)) | ((first | refine itePos (by omega) ?_ | refine iteNeg (by omega) ?_); try simp [go_sem, ↓iO, iO, tN]) | (refine ⟨dcK, ?_⟩))
      rw [RoundQ_normal]; refine ⟨j + 1, [(506, some 506), (512, some 512), (528, some 528)], ?_, ?_, ?_⟩
      · omega
      · omega
      simp [go_sem, ↓iO, iO, tN]
    obtain rfl : j = 2 := by omega
    repeat (first | (refine nf1_sound rfl ?_; simp [go_sem, ↓iO, iO, tN]; (repeat (refine anI ?_)); try (refine ⟨dcK, ?_⟩)) | ((first | refine itePos (by omega) ?_ | refine iteNeg (by omega) ?_); try simp [go_sem, ↓iO, iO, tN]) | (refine ⟨dcK, ?_⟩))
    rw [RoundQ_normal]; refine ⟨(K4, k + 1), [(506, some 506), (512, some 512)], ?_, ?_, ?_⟩
    · exact ⟨hK4, by dsimp only; omega⟩
    · dsimp only; omega
    simp [go_sem, ↓iO, iO, tN]
  · obtain rfl : k = 3 := by omega
    repeat (first | (refine nf1_sound rfl ?_; simp [go_sem, ↓iO, iO, tN]; (repeat (refine anI ?_)); try (refine ⟨dcK, ?_⟩)) | ((first | refine itePos (by omega) ?_ | refine iteNeg (by omega) ?_); try simp [go_sem, ↓iO, iO, tN]) | (refine ⟨dcK, ?_⟩))
    refine CallK.fn (ca) [] [] [] (by kernel_rfl) ?_ ?_ ?_ (Or.inl rfl) ?_ <;> simp [go_sem, ↓iO, iO, tN]
    repeat (refine anI ?_)
    try (refine ⟨dcK, ?_⟩)
    repeat (first | (refine nf1_sound rfl ?_; simp [go_sem, ↓iO, iO, tN]; (repeat (refine anI ?_)); try (refine ⟨dcK, ?_⟩)) | ((first | refine itePos (by omega) ?_ | refine iteNeg (by omega) ?_); try simp [go_sem, ↓iO, iO, tN]) | (refine ⟨dcK, ?_⟩))
    first | rw [RetQ_ret] | rw [RetQ_normal]
    refine ⟨[], ?_⟩
    simp [go_sem, ↓iO, iO, tN]
theorem itg_in {x : T} (h : InSh (.st [.int .i64, .int .i64, .int .i64, .int .i64, .int .i64, .sl (.int .i64)]) x) : ∃ t, x = encTg t ∧ t.vs.length ≤ 9223372036854775807 := by
  obtain ⟨xs, rfl, h⟩ := insh_st h
  obtain ⟨y1, ys, rfl, h1, h⟩ := inshs_cons h
  obtain ⟨y2, ys, rfl, h2, h⟩ := inshs_cons h
  obtain ⟨y3, ys, rfl, h3, h⟩ := inshs_cons h
  obtain ⟨y4, ys, rfl, h4, h⟩ := inshs_cons h
  obtain ⟨y5, ys, rfl, h5, h⟩ := inshs_cons h
  obtain ⟨y6, ys, rfl, h6, h⟩ := inshs_cons h
  obtain rfl := inshs_nil h
  obtain ⟨a1, rfl, _⟩ := int_in h1
  obtain ⟨a2, rfl, _⟩ := int_in h2
  obtain ⟨a3, rfl, _⟩ := int_in h3
  obtain ⟨a4, rfl, _⟩ := int_in h4
  obtain ⟨a5, rfl, _⟩ := int_in h5
  obtain ⟨l, rfl, hl, _⟩ := ints_in h6
  exact ⟨⟨a1, a2, a3, a4, a5, l⟩, rfl, hl⟩
theorem iwt_in {x : T} (h : InSh (.st [.int .i64, .int .i64, .int .i64, .sl (.st [.int .i64, .int .i64, .int .i64, .int .i64, .int .i64, .sl (.int .i64)])]) x) : ∃ w, x = encWt w ∧ w.held.length ≤ 9223372036854775807 := by
  obtain ⟨xs, rfl, h⟩ := insh_st h
  obtain ⟨y1, ys, rfl, h1, h⟩ := inshs_cons h
  obtain ⟨y2, ys, rfl, h2, h⟩ := inshs_cons h
  obtain ⟨y3, ys, rfl, h3, h⟩ := inshs_cons h
  obtain ⟨y4, ys, rfl, h4, h⟩ := inshs_cons h
  obtain rfl := inshs_nil h
  obtain ⟨a1, rfl, _⟩ := int_in h1
  obtain ⟨a2, rfl, _⟩ := int_in h2
  obtain ⟨a3, rfl, _⟩ := int_in h3
  obtain ⟨zs, rfl, hl, hz⟩ := insh_sl h4
  obtain ⟨l, rfl, _⟩ := insh_list (en := encTg) (Q := fun t => t.vs.length ≤ 9223372036854775807) (fun y hy => itg_in hy) zs hz
  exact ⟨⟨a1, a2, a3, l⟩, rfl, by simpa [maxLen] using hl⟩
theorem szd_wt {w : Wt} (h : SzD (encWt w)) : ∀ t ∈ w.held, t.vs.length ≤ 17592186044416 := by
  intro t ht
  unfold encWt at h
  simp only [SzD, SzDs] at h
  have h1 := h.2.2.2.1.2.mem (encTg t) (List.mem_map.2 ⟨t, ht, rfl⟩)
  unfold encTg at h1
  simp only [SzD, SzDs] at h1
  have h2 := h1.2.2.2.2.2.1
  unfold encIs at h2
  simp only [SzD] at h2
  have h3 := h2.1
  cases hv : t.vs with
  | nil => simp
  | cons a r =>
    rw [hv] at h3
    rw [List.length_map, List.map_cons, show listB (encI a :: r.map encI) = 8 from rfl] at h3
    unfold reachBytes at h3
    omega
theorem inAnswers_all (x0 x1 x2 x3 x4 : T) (h0 : InSh (.st [.int .i64, .sl (.int .u8), .sl (.st [.int .i64, .int .i64, .int .i64, .sl (.st [.int .i64, .int .i64, .int .i64, .int .i64, .int .i64, .sl (.int .i64)])])]) x0)
    (h1 : InSh (.st [.int .i64, .int .i64, .int .i64, .int .i64, .int .i64, .sl (.int .i64)]) x1) (h2 : InSh (.sl (.int .u8)) x2) (h3 : InSh (.int .i64) x3) (h4 : InSh (.sl (.int .i64)) x4) (z0 : SzD x0) (z1 : SzD x1) (z2 : SzD x2) (z3 : SzD x3) (z4 : SzD x4) :
    FnOk Try.prog 6 [.t x0, .t x1, .t x2, .t x3, .t x4] [] (.t (.bool true)) [] := by
  obtain ⟨xs, rfl, h⟩ := insh_st h0
  obtain ⟨y1, ys, rfl, g1, h⟩ := inshs_cons h
  obtain ⟨y2, ys, rfl, g2, h⟩ := inshs_cons h
  obtain ⟨y3, ys, rfl, g3, h⟩ := inshs_cons h
  obtain rfl := inshs_nil h
  obtain ⟨a1, rfl, _⟩ := int_in g1
  obtain ⟨tl, rfl, htl, h8⟩ := bytes_in g2
  obtain ⟨zs, rfl, hzl, hz⟩ := insh_sl g3
  obtain ⟨ws, rfl, hws⟩ := insh_list (en := encWt) (Q := fun w => w.held.length ≤ 9223372036854775807) (fun y hy => iwt_in hy) zs hz
  obtain ⟨t, rfl, ht⟩ := itg_in h1
  obtain ⟨b, rfl, hb, hb8⟩ := bytes_in h2
  obtain ⟨n, rfl, _⟩ := int_in h3
  obtain ⟨l, rfl, hl, wl⟩ := ints_in h4
  simp only [SzD, SzDs] at z0
  exact inAnswers_fn ⟨a1, tl, ws⟩ t b n l hl wl htl (by simpa [maxLen] using hzl) h8 (fun w hw => ⟨hws w hw, szd_wt (z0.2.2.1.2.mem (encWt w) (List.mem_map.2 ⟨w, hw, rfl⟩))⟩) hb hb8 ht
end Go.Proofs.Ytopmmodcaoaaeaa
