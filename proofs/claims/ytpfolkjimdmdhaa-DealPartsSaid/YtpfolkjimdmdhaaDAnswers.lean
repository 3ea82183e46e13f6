/- The law DealAnswers: what it computes. No condition. -/
import Derived.Test.YtpfolkjimdmdhaaDlW
import Derived.Test.YtpfolkjimdmdhaaKFillP
import Derived.Test.YtpfolkjimdmdhaaKArg
namespace Go.Proofs.Ytpfolkjimdmdhaa
open Go.RowKit Sy Dl
set_option linter.unusedVariables false
set_option linter.unusedSimpArgs false
theorem counts_len {r x : List Int} {k e : Int} (h : countsV r k = (x, e)) : x.length ≤ r.length := by
  unfold countsV at h
  split at h
  · simp only [Prod.mk.injEq] at h
    rw [← h.1, cs_len]; exact Nat.le_refl _
  · simp only [Prod.mk.injEq] at h
    rw [← h.1]; simp
theorem deal_len {l : List (Int × Int)} {r : List Int} {x : List (List (Int × Int))} {e : Int} (h : dealV l r = (x, e)) : x.length ≤ r.length ∧ ∀ p ∈ x, p.length ≤ 400 := by
  unfold dealV at h
  simp only at h
  split at h
  · simp only [Prod.mk.injEq] at h
    rw [← h.1]; simp
  · split at h
    · simp only [Prod.mk.injEq] at h
      rw [← h.1]; simp
    · simp only [Prod.mk.injEq] at h
      rw [← h.1]
      unfold dealt
      refine ⟨by simp, fun p hp => ?_⟩
      obtain ⟨i, _, rfl⟩ := List.mem_map.1 hp
      have h1 := Pc.join_length (strm r i (Pc.merge l) 0)
      rw [strm_len] at h1
      have := (merge_small l).1
      omega
set_option maxRecDepth 100000 in
set_option maxHeartbeats 16000000 in
theorem danswers_fn (sm : List Int) (raw : List (Int × Int)) (li : Int) (l : List Int) (hsm : sm.length ≤ 9223372036854775807) (hraw : raw.length ≤ 9223372036854775807) (hl : l.length ≤ 9223372036854775807) (wf : ∀ z ∈ l, -9223372036854775808 ≤ z ∧ z ≤ 9223372036854775807) :
    FnOk Try.prog 3 [.t (encIs sm), .t (encPs raw), .t (.int li), .t (encIs l)] [] (.t (.bool true)) [] := by
  by_cases h1 : 100 < sm.length
  · refine FnOk.intro fact_mixed Try.func3 rfl Try.ntmps3 (by rfl) (by simp) ?_
    repeat (first | (refine nf1_sound rfl ?_; simp [go_sem, ↓IntWalk.iteOmega, IntWalk.iteOmega, IntWalk.toNatUp]; (repeat (refine And.intro (by omega) ?_)); try (refine ⟨DrawChk_of (by kernel_rfl), ?_⟩)) | (refine itePos (by omega) ?_; try simp [go_sem, ↓IntWalk.iteOmega, IntWalk.iteOmega, IntWalk.toNatUp]) | (refine iteNeg (by omega) ?_; try simp [go_sem, ↓IntWalk.iteOmega, IntWalk.iteOmega, IntWalk.toNatUp]) | (refine ⟨DrawChk_of (by kernel_rfl), ?_⟩))
    refine CallK.fn (awake_fn) [] [] [] (by kernel_rfl) (by simp [go_sem, ↓IntWalk.iteOmega, IntWalk.iteOmega, IntWalk.toNatUp]) (by simp [go_sem, ↓IntWalk.iteOmega, IntWalk.iteOmega, IntWalk.toNatUp]) (by simp [go_sem, ↓IntWalk.iteOmega, IntWalk.iteOmega, IntWalk.toNatUp]) (Or.inl rfl) ?_
    simp [go_sem, ↓IntWalk.iteOmega, IntWalk.iteOmega, IntWalk.toNatUp]
    repeat (refine And.intro (by omega) ?_)
    try (refine ⟨DrawChk_of (by kernel_rfl), ?_⟩)
    repeat (first | (refine nf1_sound rfl ?_; simp [go_sem, ↓IntWalk.iteOmega, IntWalk.iteOmega, IntWalk.toNatUp]; (repeat (refine And.intro (by omega) ?_)); try (refine ⟨DrawChk_of (by kernel_rfl), ?_⟩)) | (refine itePos (by omega) ?_; try simp [go_sem, ↓IntWalk.iteOmega, IntWalk.iteOmega, IntWalk.toNatUp]) | (refine iteNeg (by omega) ?_; try simp [go_sem, ↓IntWalk.iteOmega, IntWalk.iteOmega, IntWalk.toNatUp]) | (refine ⟨DrawChk_of (by kernel_rfl), ?_⟩))
    first | rw [RetQ_ret] | rw [RetQ_normal]
    refine ⟨[], ?_⟩
    simp [go_sem, ↓IntWalk.iteOmega, IntWalk.iteOmega, IntWalk.toNatUp]
  by_cases h2 : 300 < raw.length
  · refine FnOk.intro fact_mixed Try.func3 rfl Try.ntmps3 (by rfl) (by simp) ?_
    repeat (first | (refine nf1_sound rfl ?_; simp [go_sem, ↓IntWalk.iteOmega, IntWalk.iteOmega, IntWalk.toNatUp, h1]; (repeat (refine And.intro (by omega) ?_)); try (refine ⟨DrawChk_of (by kernel_rfl), ?_⟩)) | (refine itePos (by omega) ?_; try simp [go_sem, ↓IntWalk.iteOmega, IntWalk.iteOmega, IntWalk.toNatUp, h1]) | (refine iteNeg (by omega) ?_; try simp [go_sem, ↓IntWalk.iteOmega, IntWalk.iteOmega, IntWalk.toNatUp, h1]) | (refine ⟨DrawChk_of (by kernel_rfl), ?_⟩))
    refine CallK.fn (awake_fn) [] [] [] (by kernel_rfl) (by simp [go_sem, ↓IntWalk.iteOmega, IntWalk.iteOmega, IntWalk.toNatUp]) (by simp [go_sem, ↓IntWalk.iteOmega, IntWalk.iteOmega, IntWalk.toNatUp]) (by simp [go_sem, ↓IntWalk.iteOmega, IntWalk.iteOmega, IntWalk.toNatUp]) (Or.inl rfl) ?_
    simp [go_sem, ↓IntWalk.iteOmega, IntWalk.iteOmega, IntWalk.toNatUp]
    repeat (refine And.intro (by omega) ?_)
    try (refine ⟨DrawChk_of (by kernel_rfl), ?_⟩)
    repeat (first | (refine nf1_sound rfl ?_; simp [go_sem, ↓IntWalk.iteOmega, IntWalk.iteOmega, IntWalk.toNatUp]; (repeat (refine And.intro (by omega) ?_)); try (refine ⟨DrawChk_of (by kernel_rfl), ?_⟩)) | (refine itePos (by omega) ?_; try simp [go_sem, ↓IntWalk.iteOmega, IntWalk.iteOmega, IntWalk.toNatUp]) | (refine iteNeg (by omega) ?_; try simp [go_sem, ↓IntWalk.iteOmega, IntWalk.iteOmega, IntWalk.toNatUp]) | (refine ⟨DrawChk_of (by kernel_rfl), ?_⟩))
    first | rw [RetQ_ret] | rw [RetQ_normal]
    refine ⟨[], ?_⟩
    simp [go_sem, ↓IntWalk.iteOmega, IntWalk.iteOmega, IntWalk.toNatUp]
  have h0 := new_ok wf
  obtain ⟨s, hm⟩ : ∃ m, newL2 l = m := ⟨_, rfl⟩
  have hnew := new_fn l hl
  rw [hm] at h0 hnew
  obtain ⟨k1, r, s1, hr, cr⟩ := rates_ex h0
  have hlen := hr.len
  have htt := hr.tt
  have hpos := hr.rates.pos
  obtain ⟨b, _, cb⟩ := pick_ex s1 [-1, 1000, 1001] (by simp) (by simp)
  obtain ⟨v, hv⟩ : ∃ v, tot r = v := ⟨_, rfl⟩
  rw [hv] at cr htt hpos
  obtain ⟨XL, hXL⟩ : ∃ XL, [sm, r, r ++ [b], [0, 0]] = XL := ⟨_, rfl⟩
  have hXl : XL.length = 4 := by rw [← hXL]; rfl
  have hXe : ∀ x ∈ XL, x.length ≤ 100 := by
    rw [← hXL]; intro x hx
    simp only [List.mem_cons, List.not_mem_nil, or_false] at hx
    rcases hx with rfl | rfl | rfl | rfl <;> (try simp only [List.length_append, List.length_cons, List.length_nil]) <;> omega
  have hXT : [encIs sm, encIs r, .sl 1 (r.map encI ++ [T.int b]), .sl 1 [T.int 0, T.int 0]] = XL.map encIs := by rw [← hXL]; simp [encIs, encI]
  simp only [encIs] at hXT
  refine FnOk.intro fact_mixed Try.func3 rfl Try.ntmps3 (by rfl) (by simp) ?_
  repeat (first | (refine nf1_sound rfl ?_; simp [go_sem, ↓IntWalk.iteOmega, IntWalk.iteOmega, IntWalk.toNatUp, h1, h2]; (repeat (refine And.intro (by omega) ?_)); try (refine ⟨DrawChk_of (by kernel_rfl), ?_⟩)) | (refine itePos (by omega) ?_; try simp [go_sem, ↓IntWalk.iteOmega, IntWalk.iteOmega, IntWalk.toNatUp, h1, h2]) | (refine iteNeg (by omega) ?_; try simp [go_sem, ↓IntWalk.iteOmega, IntWalk.iteOmega, IntWalk.toNatUp, h1, h2]) | (refine ⟨DrawChk_of (by kernel_rfl), ?_⟩))
  refine CallK.fn (hnew) [(1000, 609)] [] [] (by kernel_rfl) (by simp [go_sem, ↓IntWalk.iteOmega, IntWalk.iteOmega, IntWalk.toNatUp]) (by simp [go_sem, ↓IntWalk.iteOmega, IntWalk.iteOmega, IntWalk.toNatUp]) (by simp [go_sem, ↓IntWalk.iteOmega, IntWalk.iteOmega, IntWalk.toNatUp]) (Or.inl rfl) ?_
  simp [go_sem, ↓IntWalk.iteOmega, IntWalk.iteOmega, IntWalk.toNatUp]
  repeat (refine And.intro (by omega) ?_)
  try (refine ⟨DrawChk_of (by kernel_rfl), ?_⟩)
  repeat (first | (refine nf1_sound rfl ?_; simp [go_sem, ↓IntWalk.iteOmega, IntWalk.iteOmega, IntWalk.toNatUp]; (repeat (refine And.intro (by omega) ?_)); try (refine ⟨DrawChk_of (by kernel_rfl), ?_⟩)) | (refine itePos (by omega) ?_; try simp [go_sem, ↓IntWalk.iteOmega, IntWalk.iteOmega, IntWalk.toNatUp]) | (refine iteNeg (by omega) ?_; try simp [go_sem, ↓IntWalk.iteOmega, IntWalk.iteOmega, IntWalk.toNatUp]) | (refine ⟨DrawChk_of (by kernel_rfl), ?_⟩))
  refine CallK.fn (cr) [(0, 609), (1000, 610)] [] [] (by kernel_rfl) (by simp [go_sem, ↓IntWalk.iteOmega, IntWalk.iteOmega, IntWalk.toNatUp]) (by simp [go_sem, ↓IntWalk.iteOmega, IntWalk.iteOmega, IntWalk.toNatUp]) (by simp [go_sem, ↓IntWalk.iteOmega, IntWalk.iteOmega, IntWalk.toNatUp]) (Or.inl rfl) ?_
  simp [go_sem, ↓IntWalk.iteOmega, IntWalk.iteOmega, IntWalk.toNatUp]
  repeat (refine And.intro (by omega) ?_)
  try (refine ⟨DrawChk_of (by kernel_rfl), ?_⟩)
  repeat (first | (refine nf1_sound rfl ?_; simp [go_sem, ↓IntWalk.iteOmega, IntWalk.iteOmega, IntWalk.toNatUp]; (repeat (refine And.intro (by omega) ?_)); try (refine ⟨DrawChk_of (by kernel_rfl), ?_⟩)) | (refine itePos (by omega) ?_; try simp [go_sem, ↓IntWalk.iteOmega, IntWalk.iteOmega, IntWalk.toNatUp]) | (refine iteNeg (by omega) ?_; try simp [go_sem, ↓IntWalk.iteOmega, IntWalk.iteOmega, IntWalk.toNatUp]) | (refine ⟨DrawChk_of (by kernel_rfl), ?_⟩))
  refine CallK.fn (cb) [(0, 609)] [] [147] (by kernel_rfl) (by simp [go_sem, ↓IntWalk.iteOmega, IntWalk.iteOmega, IntWalk.toNatUp]) (by simp [go_sem, ↓IntWalk.iteOmega, IntWalk.iteOmega, IntWalk.toNatUp]) (by simp [go_sem, ↓IntWalk.iteOmega, IntWalk.iteOmega, IntWalk.toNatUp]) (Or.inl rfl) ?_
  simp [go_sem, ↓IntWalk.iteOmega, IntWalk.iteOmega, IntWalk.toNatUp]
  repeat (refine And.intro (by omega) ?_)
  try (refine ⟨DrawChk_of (by kernel_rfl), ?_⟩)
  repeat (first | (refine nf1_sound rfl ?_; simp [go_sem, ↓IntWalk.iteOmega, IntWalk.iteOmega, IntWalk.toNatUp]; (repeat (refine And.intro (by omega) ?_)); try (refine ⟨DrawChk_of (by kernel_rfl), ?_⟩)) | (refine itePos (by omega) ?_; try simp [go_sem, ↓IntWalk.iteOmega, IntWalk.iteOmega, IntWalk.toNatUp]) | (refine iteNeg (by omega) ?_; try simp [go_sem, ↓IntWalk.iteOmega, IntWalk.iteOmega, IntWalk.toNatUp]) | (refine ⟨DrawChk_of (by kernel_rfl), ?_⟩))
  refine nf1_sound' _ _ _ ?_; simp only [nf1]
  refine CW.loop (ι := Nat × Nat) (fun p => ⟨[(1, .t (encPs raw)), (2, .t (.int li)), (9, .pt 509 [] 0), (11, .t (.int v)), (55, .t (.sl 1 (XL.map encIs))), (56, .t (.int 4)), (57, .t (.int p.1))], [(509, srcB s p.2)]⟩) (fun p => p.1 ≤ 4 ∧ SrcOk s p.2) (fun p => 4 - p.1) (0, nextK s k1) [(509, some 609)] ⟨by simp, s1.next⟩ ?_ ?_
  · simp [go_sem, ↓IntWalk.iteOmega, IntWalk.iteOmega, IntWalk.toNatUp, ← hXT]
  rintro ⟨i, k⟩ ⟨hi, hs⟩
  dsimp only at hi hs ⊢
  by_cases hb : i < 4
  · obtain ⟨x, hx⟩ := has_get (show i < XL.length by omega)
    have hxl := hXe x (mem_get hx)
    obtain ⟨a, ha, ca⟩ := n_ex hs (v + 2) (by omega) (by omega)
    obtain ⟨NL, hNL⟩ : ∃ NL, [li, a, v] = NL := ⟨_, rfl⟩
    have hNT : [T.int li, T.int a, T.int v] = NL.map encI := by rw [← hNL]; rfl
    have hNl : NL.length = 3 := by rw [← hNL]; rfl
    repeat (first | (refine nf1_sound rfl ?_; simp [go_sem, ↓IntWalk.iteOmega, IntWalk.iteOmega, IntWalk.toNatUp, hx, hXl]; (repeat (refine And.intro (by omega) ?_)); try (refine ⟨DrawChk_of (by kernel_rfl), ?_⟩)) | (refine itePos (by omega) ?_; try simp [go_sem, ↓IntWalk.iteOmega, IntWalk.iteOmega, IntWalk.toNatUp, hx, hXl]) | (refine iteNeg (by omega) ?_; try simp [go_sem, ↓IntWalk.iteOmega, IntWalk.iteOmega, IntWalk.toNatUp, hx, hXl]) | (refine ⟨DrawChk_of (by kernel_rfl), ?_⟩))
    refine CallK.fn (ca) [(0, 509)] [] [] (by kernel_rfl) (by simp [go_sem, ↓IntWalk.iteOmega, IntWalk.iteOmega, IntWalk.toNatUp, hXl]) (by simp [go_sem, ↓IntWalk.iteOmega, IntWalk.iteOmega, IntWalk.toNatUp, hXl]) (by simp [go_sem, ↓IntWalk.iteOmega, IntWalk.iteOmega, IntWalk.toNatUp, hXl]) (Or.inl rfl) ?_
    simp [go_sem, ↓IntWalk.iteOmega, IntWalk.iteOmega, IntWalk.toNatUp, hXl]
    repeat (refine And.intro (by omega) ?_)
    try (refine ⟨DrawChk_of (by kernel_rfl), ?_⟩)
    repeat (first | (refine nf1_sound rfl ?_; simp [go_sem, ↓IntWalk.iteOmega, IntWalk.iteOmega, IntWalk.toNatUp]; (repeat (refine And.intro (by omega) ?_)); try (refine ⟨DrawChk_of (by kernel_rfl), ?_⟩)) | (refine itePos (by omega) ?_; try simp [go_sem, ↓IntWalk.iteOmega, IntWalk.iteOmega, IntWalk.toNatUp]) | (refine iteNeg (by omega) ?_; try simp [go_sem, ↓IntWalk.iteOmega, IntWalk.iteOmega, IntWalk.toNatUp]) | (refine ⟨DrawChk_of (by kernel_rfl), ?_⟩))
    refine nf1_sound' _ _ _ ?_; simp only [nf1]
    refine CW.loop (ι := Nat) (fun j => ⟨[(1, .t (encPs raw)), (2, .t (.int li)), (9, .pt 509 [] 0), (11, .t (.int v)), (14, .t (encIs x)), (55, .t (.sl 1 (XL.map encIs))), (56, .t (.int 4)), (57, .t (.int i)), (67, .t (encIs NL)), (68, .t (.int 3)), (69, .t (.int j))], [(509, srcB s (nextK s k))]⟩) (fun j => j ≤ 3) (fun j => 3 - j) 0 [(509, some 509)] (by omega) ?_ ?_
    · simp [go_sem, ↓IntWalk.iteOmega, IntWalk.iteOmega, IntWalk.toNatUp, ← hNT]
    intro j hj
    by_cases hb2 : j < 3
    · obtain ⟨n, hn⟩ := has_get (show j < NL.length by omega)
      obtain ⟨y, e, hye⟩ : ∃ y e, countsV x n = (y, e) := ⟨_, _, rfl⟩
      have hyl := counts_len hye
      have c1 := counts_fn x n (by omega) y e hye
      have c2 := rcounts_fn x n (by omega) y e hye
      have c3 := ints_fn y y (by omega) true (decide_eq_true rfl)
      repeat (first | (refine nf1_sound rfl ?_; simp [go_sem, ↓IntWalk.iteOmega, IntWalk.iteOmega, IntWalk.toNatUp, hn, hNl]; (repeat (refine And.intro (by omega) ?_)); try (refine ⟨DrawChk_of (by kernel_rfl), ?_⟩)) | (refine itePos (by omega) ?_; try simp [go_sem, ↓IntWalk.iteOmega, IntWalk.iteOmega, IntWalk.toNatUp, hn, hNl]) | (refine iteNeg (by omega) ?_; try simp [go_sem, ↓IntWalk.iteOmega, IntWalk.iteOmega, IntWalk.toNatUp, hn, hNl]) | (refine ⟨DrawChk_of (by kernel_rfl), ?_⟩))
      refine CallK.fn (c1) [(1000, 617)] [] [] (by kernel_rfl) (by simp [go_sem, ↓IntWalk.iteOmega, IntWalk.iteOmega, IntWalk.toNatUp]) (by simp [go_sem, ↓IntWalk.iteOmega, IntWalk.iteOmega, IntWalk.toNatUp]) (by simp [go_sem, ↓IntWalk.iteOmega, IntWalk.iteOmega, IntWalk.toNatUp]) (Or.inl rfl) ?_
      simp [go_sem, ↓IntWalk.iteOmega, IntWalk.iteOmega, IntWalk.toNatUp]
      repeat (refine And.intro (by omega) ?_)
      try (refine ⟨DrawChk_of (by kernel_rfl), ?_⟩)
      repeat (first | (refine nf1_sound rfl ?_; simp [go_sem, ↓IntWalk.iteOmega, IntWalk.iteOmega, IntWalk.toNatUp]; (repeat (refine And.intro (by omega) ?_)); try (refine ⟨DrawChk_of (by kernel_rfl), ?_⟩)) | (refine itePos (by omega) ?_; try simp [go_sem, ↓IntWalk.iteOmega, IntWalk.iteOmega, IntWalk.toNatUp]) | (refine iteNeg (by omega) ?_; try simp [go_sem, ↓IntWalk.iteOmega, IntWalk.iteOmega, IntWalk.toNatUp]) | (refine ⟨DrawChk_of (by kernel_rfl), ?_⟩))
      refine CallK.fn (c2) [(1000, 619)] [] [] (by kernel_rfl) (by simp [go_sem, ↓IntWalk.iteOmega, IntWalk.iteOmega, IntWalk.toNatUp]) (by simp [go_sem, ↓IntWalk.iteOmega, IntWalk.iteOmega, IntWalk.toNatUp]) (by simp [go_sem, ↓IntWalk.iteOmega, IntWalk.iteOmega, IntWalk.toNatUp]) (Or.inl rfl) ?_
      simp [go_sem, ↓IntWalk.iteOmega, IntWalk.iteOmega, IntWalk.toNatUp]
      repeat (refine And.intro (by omega) ?_)
      try (refine ⟨DrawChk_of (by kernel_rfl), ?_⟩)
      repeat (first | (refine nf1_sound rfl ?_; simp [go_sem, ↓IntWalk.iteOmega, IntWalk.iteOmega, IntWalk.toNatUp]; (repeat (refine And.intro (by omega) ?_)); try (refine ⟨DrawChk_of (by kernel_rfl), ?_⟩)) | (refine itePos (by omega) ?_; try simp [go_sem, ↓IntWalk.iteOmega, IntWalk.iteOmega, IntWalk.toNatUp]) | (refine iteNeg (by omega) ?_; try simp [go_sem, ↓IntWalk.iteOmega, IntWalk.iteOmega, IntWalk.toNatUp]) | (refine ⟨DrawChk_of (by kernel_rfl), ?_⟩))
      refine CallK.fn (c3) [] [617, 619] [] (by kernel_rfl) (by simp [go_sem, ↓IntWalk.iteOmega, IntWalk.iteOmega, IntWalk.toNatUp]) (by simp [go_sem, ↓IntWalk.iteOmega, IntWalk.iteOmega, IntWalk.toNatUp]) (by simp [go_sem, ↓IntWalk.iteOmega, IntWalk.iteOmega, IntWalk.toNatUp]) (Or.inr ⟨by simp [go_sem, ↓IntWalk.iteOmega, IntWalk.iteOmega, IntWalk.toNatUp], by simp [go_sem, ↓IntWalk.iteOmega, IntWalk.iteOmega, IntWalk.toNatUp]⟩) ?_
      simp [go_sem, ↓IntWalk.iteOmega, IntWalk.iteOmega, IntWalk.toNatUp]
      repeat (refine And.intro (by omega) ?_)
      try (refine ⟨DrawChk_of (by kernel_rfl), ?_⟩)
      repeat (first | (refine nf1_sound rfl ?_; simp [go_sem, ↓IntWalk.iteOmega, IntWalk.iteOmega, IntWalk.toNatUp]; (repeat (refine And.intro (by omega) ?_)); try (refine ⟨DrawChk_of (by kernel_rfl), ?_⟩)) | (refine itePos (by omega) ?_; try simp [go_sem, ↓IntWalk.iteOmega, IntWalk.iteOmega, IntWalk.toNatUp]) | (refine iteNeg (by omega) ?_; try simp [go_sem, ↓IntWalk.iteOmega, IntWalk.iteOmega, IntWalk.toNatUp]) | (refine ⟨DrawChk_of (by kernel_rfl), ?_⟩))
      rw [RoundQ_normal]; refine ⟨j + 1, [(509, some 509)], ?_, ?_, ?_⟩
      · omega
      · omega
      simp [go_sem, ↓IntWalk.iteOmega, IntWalk.iteOmega, IntWalk.toNatUp]
    obtain rfl : j = 3 := by omega
    have s2 := hs.next
    have f1 := fill_ok (v := v) (b := 3) s2 (by omega) (by omega) (by omega) (by omega)
    have d1 := fill_fn s (nextK s k) v 3 s2 (by omega) (by omega) (by omega) (by omega)
    have s3 := f1.src
    have n1 := f1.len
    obtain ⟨⟨k3, fv1, F⟩, hF⟩ : ∃ F, fillS s (nextK s k) v 3 = F := ⟨_, rfl⟩
    rw [hF] at d1 s3 n1
    dsimp only at d1 s3 n1
    obtain ⟨a2, ha2, ca2⟩ := n_ex s3 (v + 2) (by omega) (by omega)
    have f2 := fill_ok (v := a2) (b := 2) s3.next (by omega) (by omega) ha2.1 (by omega)
    have d2 := fill_fn s (nextK s k3) a2 2 s3.next (by omega) (by omega) ha2.1 (by omega)
    have s4 := f2.src
    have n2 := f2.len
    obtain ⟨⟨k4, fv2, F2⟩, hF2⟩ : ∃ F, fillS s (nextK s k3) a2 2 = F := ⟨_, rfl⟩
    rw [hF2] at d2 s4 n2
    dsimp only at d2 s4 n2
    obtain ⟨PL, hPL⟩ : ∃ PL, [raw, F, F2, [(1, 0)], [(-1, 1)]] = PL := ⟨_, rfl⟩
    have hPl : PL.length = 5 := by rw [← hPL]; rfl
    have hPe : ∀ x ∈ PL, x.length ≤ 1000 := by
      rw [← hPL]; intro x hx
      simp only [List.mem_cons, List.not_mem_nil, or_false] at hx
      rcases hx with rfl | rfl | rfl | rfl | rfl <;> (try simp only [List.length_append, List.length_cons, List.length_nil]) <;> omega
    have hPT : [T.sl 2 (raw.map encP), .sl 2 (F.map encP), .sl 2 (F2.map encP), .sl 2 [.agg [T.int 1, T.int 0]], .sl 2 [.agg [T.int (-1), T.int 1]]] = PL.map encPs := by rw [← hPL]; rfl
    repeat (first | (refine nf1_sound rfl ?_; simp [go_sem, ↓IntWalk.iteOmega, IntWalk.iteOmega, IntWalk.toNatUp]; (repeat (refine And.intro (by omega) ?_)); try (refine ⟨DrawChk_of (by kernel_rfl), ?_⟩)) | (refine itePos (by omega) ?_; try simp [go_sem, ↓IntWalk.iteOmega, IntWalk.iteOmega, IntWalk.toNatUp]) | (refine iteNeg (by omega) ?_; try simp [go_sem, ↓IntWalk.iteOmega, IntWalk.iteOmega, IntWalk.toNatUp]) | (refine ⟨DrawChk_of (by kernel_rfl), ?_⟩))
    refine CallK.fn (d1) [(0, 509), (1000, 698)] [] [] (by kernel_rfl) (by simp [go_sem, ↓IntWalk.iteOmega, IntWalk.iteOmega, IntWalk.toNatUp]) (by simp [go_sem, ↓IntWalk.iteOmega, IntWalk.iteOmega, IntWalk.toNatUp]) (by simp [go_sem, ↓IntWalk.iteOmega, IntWalk.iteOmega, IntWalk.toNatUp]) (Or.inl rfl) ?_
    simp [go_sem, ↓IntWalk.iteOmega, IntWalk.iteOmega, IntWalk.toNatUp]
    repeat (refine And.intro (by omega) ?_)
    try (refine ⟨DrawChk_of (by kernel_rfl), ?_⟩)
    refine CallK.fn (ca2) [(0, 509)] [] [] (by kernel_rfl) (by simp [go_sem, ↓IntWalk.iteOmega, IntWalk.iteOmega, IntWalk.toNatUp]) (by simp [go_sem, ↓IntWalk.iteOmega, IntWalk.iteOmega, IntWalk.toNatUp]) (by simp [go_sem, ↓IntWalk.iteOmega, IntWalk.iteOmega, IntWalk.toNatUp]) (Or.inl rfl) ?_
    simp [go_sem, ↓IntWalk.iteOmega, IntWalk.iteOmega, IntWalk.toNatUp]
    repeat (refine And.intro (by omega) ?_)
    try (refine ⟨DrawChk_of (by kernel_rfl), ?_⟩)
    refine CallK.fn (d2) [(0, 509), (1000, 704)] [] [] (by kernel_rfl) (by simp [go_sem, ↓IntWalk.iteOmega, IntWalk.iteOmega, IntWalk.toNatUp]) (by simp [go_sem, ↓IntWalk.iteOmega, IntWalk.iteOmega, IntWalk.toNatUp]) (by simp [go_sem, ↓IntWalk.iteOmega, IntWalk.iteOmega, IntWalk.toNatUp]) (Or.inl rfl) ?_
    simp [go_sem, ↓IntWalk.iteOmega, IntWalk.iteOmega, IntWalk.toNatUp]
    repeat (refine And.intro (by omega) ?_)
    try (refine ⟨DrawChk_of (by kernel_rfl), ?_⟩)
    repeat (first | (refine nf1_sound rfl ?_; simp [go_sem, ↓IntWalk.iteOmega, IntWalk.iteOmega, IntWalk.toNatUp]; (repeat (refine And.intro (by omega) ?_)); try (refine ⟨DrawChk_of (by kernel_rfl), ?_⟩)) | (refine itePos (by omega) ?_; try simp [go_sem, ↓IntWalk.iteOmega, IntWalk.iteOmega, IntWalk.toNatUp]) | (refine iteNeg (by omega) ?_; try simp [go_sem, ↓IntWalk.iteOmega, IntWalk.iteOmega, IntWalk.toNatUp]) | (refine ⟨DrawChk_of (by kernel_rfl), ?_⟩))
    refine nf1_sound' _ _ _ ?_; simp only [nf1]
    refine CW.loop (ι := Nat) (fun j => ⟨[(1, .t (encPs raw)), (2, .t (.int li)), (9, .pt 509 [] 0), (11, .t (.int v)), (14, .t (encIs x)), (55, .t (.sl 1 (XL.map encIs))), (56, .t (.int 4)), (57, .t (.int i)), (109, .t (.sl 1 (PL.map encPs))), (110, .t (.int 5)), (111, .t (.int j))], [(509, srcB s k4)]⟩) (fun j => j ≤ 5) (fun j => 5 - j) 0 [(509, some 509)] (by omega) ?_ ?_
    · simp [go_sem, ↓IntWalk.iteOmega, IntWalk.iteOmega, IntWalk.toNatUp, ← hPT]
    intro j hj
    by_cases hb3 : j < 5
    · obtain ⟨p, hp⟩ := has_get (show j < PL.length by omega)
      have hpl := hPe p (mem_get hp)
      obtain ⟨y, e, hye⟩ : ∃ y e, dealV p x = (y, e) := ⟨_, _, rfl⟩
      have hyl := deal_len hye
      have c1 := deal_fn p x (by omega) (by omega) y e hye
      have c2 := rdeal_fn p x (by omega) (by omega) y e hye
      have c3 := rsame_fn y y (by omega) (fun q hq => by have := hyl.2 q hq; omega) true (decide_eq_true rfl)
      repeat (first | (refine nf1_sound rfl ?_; simp [go_sem, ↓IntWalk.iteOmega, IntWalk.iteOmega, IntWalk.toNatUp, hp, hPl]; (repeat (refine And.intro (by omega) ?_)); try (refine ⟨DrawChk_of (by kernel_rfl), ?_⟩)) | (refine itePos (by omega) ?_; try simp [go_sem, ↓IntWalk.iteOmega, IntWalk.iteOmega, IntWalk.toNatUp, hp, hPl]) | (refine iteNeg (by omega) ?_; try simp [go_sem, ↓IntWalk.iteOmega, IntWalk.iteOmega, IntWalk.toNatUp, hp, hPl]) | (refine ⟨DrawChk_of (by kernel_rfl), ?_⟩))
      refine CallK.fn (c1) [] [] [] (by kernel_rfl) (by simp [go_sem, ↓IntWalk.iteOmega, IntWalk.iteOmega, IntWalk.toNatUp]) (by simp [go_sem, ↓IntWalk.iteOmega, IntWalk.iteOmega, IntWalk.toNatUp]) (by simp [go_sem, ↓IntWalk.iteOmega, IntWalk.iteOmega, IntWalk.toNatUp]) (Or.inl rfl) ?_
      simp [go_sem, ↓IntWalk.iteOmega, IntWalk.iteOmega, IntWalk.toNatUp]
      repeat (refine And.intro (by omega) ?_)
      try (refine ⟨DrawChk_of (by kernel_rfl), ?_⟩)
      repeat (first | (refine nf1_sound rfl ?_; simp [go_sem, ↓IntWalk.iteOmega, IntWalk.iteOmega, IntWalk.toNatUp]; (repeat (refine And.intro (by omega) ?_)); try (refine ⟨DrawChk_of (by kernel_rfl), ?_⟩)) | (refine itePos (by omega) ?_; try simp [go_sem, ↓IntWalk.iteOmega, IntWalk.iteOmega, IntWalk.toNatUp]) | (refine iteNeg (by omega) ?_; try simp [go_sem, ↓IntWalk.iteOmega, IntWalk.iteOmega, IntWalk.toNatUp]) | (refine ⟨DrawChk_of (by kernel_rfl), ?_⟩))
      refine CallK.fn (c2) [] [] [] (by kernel_rfl) (by simp [go_sem, ↓IntWalk.iteOmega, IntWalk.iteOmega, IntWalk.toNatUp]) (by simp [go_sem, ↓IntWalk.iteOmega, IntWalk.iteOmega, IntWalk.toNatUp]) (by simp [go_sem, ↓IntWalk.iteOmega, IntWalk.iteOmega, IntWalk.toNatUp]) (Or.inl rfl) ?_
      simp [go_sem, ↓IntWalk.iteOmega, IntWalk.iteOmega, IntWalk.toNatUp]
      repeat (refine And.intro (by omega) ?_)
      try (refine ⟨DrawChk_of (by kernel_rfl), ?_⟩)
      repeat (first | (refine nf1_sound rfl ?_; simp [go_sem, ↓IntWalk.iteOmega, IntWalk.iteOmega, IntWalk.toNatUp]; (repeat (refine And.intro (by omega) ?_)); try (refine ⟨DrawChk_of (by kernel_rfl), ?_⟩)) | (refine itePos (by omega) ?_; try simp [go_sem, ↓IntWalk.iteOmega, IntWalk.iteOmega, IntWalk.toNatUp]) | (refine iteNeg (by omega) ?_; try simp [go_sem, ↓IntWalk.iteOmega, IntWalk.iteOmega, IntWalk.toNatUp]) | (refine ⟨DrawChk_of (by kernel_rfl), ?_⟩))
      refine CallK.fn (c3) [] [] [] (by kernel_rfl) (by simp [go_sem, ↓IntWalk.iteOmega, IntWalk.iteOmega, IntWalk.toNatUp]) (by simp [go_sem, ↓IntWalk.iteOmega, IntWalk.iteOmega, IntWalk.toNatUp]) (by simp [go_sem, ↓IntWalk.iteOmega, IntWalk.iteOmega, IntWalk.toNatUp]) (Or.inl rfl) ?_
      simp [go_sem, ↓IntWalk.iteOmega, IntWalk.iteOmega, IntWalk.toNatUp]
      repeat (refine And.intro (by omega) ?_)
      try (refine ⟨DrawChk_of (by kernel_rfl), ?_⟩)
      repeat (first | (refine nf1_sound rfl ?_; simp [go_sem, ↓IntWalk.iteOmega, IntWalk.iteOmega, IntWalk.toNatUp]; (repeat (refine And.intro (by omega) ?_)); try (refine ⟨DrawChk_of (by kernel_rfl), ?_⟩)) | (refine itePos (by omega) ?_; try simp [go_sem, ↓IntWalk.iteOmega, IntWalk.iteOmega, IntWalk.toNatUp]) | (refine iteNeg (by omega) ?_; try simp [go_sem, ↓IntWalk.iteOmega, IntWalk.iteOmega, IntWalk.toNatUp]) | (refine ⟨DrawChk_of (by kernel_rfl), ?_⟩))
      rw [RoundQ_normal]; refine ⟨j + 1, [(509, some 509)], ?_, ?_, ?_⟩
      · omega
      · omega
      simp [go_sem, ↓IntWalk.iteOmega, IntWalk.iteOmega, IntWalk.toNatUp]
    obtain rfl : j = 5 := by omega
    repeat (first | (refine nf1_sound rfl ?_; simp [go_sem, ↓IntWalk.iteOmega, IntWalk.iteOmega, IntWalk.toNatUp]; (repeat (refine And.intro (by omega) ?_)); try (refine ⟨DrawChk_of (by kernel_rfl), ?_⟩)) | (refine itePos (by omega) ?_; try simp [go_sem, ↓IntWalk.iteOmega, IntWalk.iteOmega, IntWalk.toNatUp]) | (refine iteNeg (by omega) ?_; try simp [go_sem, ↓IntWalk.iteOmega, IntWalk.iteOmega, IntWalk.toNatUp]) | (refine ⟨DrawChk_of (by kernel_rfl), ?_⟩))
    rw [RoundQ_normal]; refine ⟨(i + 1, k4), [(509, some 509)], ?_, ?_, ?_⟩
    · exact ⟨by omega, s4⟩
    · show 4 - (i + 1) < 4 - i
      omega
    simp [go_sem, ↓IntWalk.iteOmega, IntWalk.iteOmega, IntWalk.toNatUp]
  · obtain rfl : i = 4 := by omega
    repeat (first | (refine nf1_sound rfl ?_; simp [go_sem, ↓IntWalk.iteOmega, IntWalk.iteOmega, IntWalk.toNatUp]; (repeat (refine And.intro (by omega) ?_)); try (refine ⟨DrawChk_of (by kernel_rfl), ?_⟩)) | (refine itePos (by omega) ?_; try simp [go_sem, ↓IntWalk.iteOmega, IntWalk.iteOmega, IntWalk.toNatUp]) | (refine iteNeg (by omega) ?_; try simp [go_sem, ↓IntWalk.iteOmega, IntWalk.iteOmega, IntWalk.toNatUp]) | (refine ⟨DrawChk_of (by kernel_rfl), ?_⟩))
    refine CallK.fn (awake_fn) [] [] [] (by kernel_rfl) (by simp [go_sem, ↓IntWalk.iteOmega, IntWalk.iteOmega, IntWalk.toNatUp]) (by simp [go_sem, ↓IntWalk.iteOmega, IntWalk.iteOmega, IntWalk.toNatUp]) (by simp [go_sem, ↓IntWalk.iteOmega, IntWalk.iteOmega, IntWalk.toNatUp]) (Or.inl rfl) ?_
    simp [go_sem, ↓IntWalk.iteOmega, IntWalk.iteOmega, IntWalk.toNatUp]
    repeat (refine And.intro (by omega) ?_)
    try (refine ⟨DrawChk_of (by kernel_rfl), ?_⟩)
    repeat (first | (refine nf1_sound rfl ?_; simp [go_sem, ↓IntWalk.iteOmega, IntWalk.iteOmega, IntWalk.toNatUp]; (repeat (refine And.intro (by omega) ?_)); try (refine ⟨DrawChk_of (by kernel_rfl), ?_⟩)) | (refine itePos (by omega) ?_; try simp [go_sem, ↓IntWalk.iteOmega, IntWalk.iteOmega, IntWalk.toNatUp]) | (refine iteNeg (by omega) ?_; try simp [go_sem, ↓IntWalk.iteOmega, IntWalk.iteOmega, IntWalk.toNatUp]) | (refine ⟨DrawChk_of (by kernel_rfl), ?_⟩))
    first | rw [RetQ_ret] | rw [RetQ_normal]
    refine ⟨[], ?_⟩
    simp [go_sem, ↓IntWalk.iteOmega, IntWalk.iteOmega, IntWalk.toNatUp]
theorem pieces_in {x : T} (h : InSh (.sl (.st [.int .i64, .int .i64])) x) : ∃ l, x = encPs l ∧ l.length ≤ 9223372036854775807 := by
  obtain ⟨xs, rfl, hl, hx⟩ := insh_sl h
  obtain ⟨l, rfl, _⟩ := insh_list (en := encP) (Q := fun _ => True) (fun y hy => by
    obtain ⟨a, b, rfl, _⟩ := two_in hy
    exact ⟨(a, b), rfl, trivial⟩) xs hx
  exact ⟨l, rfl, by rw [List.length_map] at hl; exact len_max hl⟩
theorem danswers_all (x0 x1 x2 x3 : T) (h0 : InSh (.sl (.int .i64)) x0) (h1 : InSh (.sl (.st [.int .i64, .int .i64])) x1) (h2 : InSh (.int .i64) x2) (h3 : InSh (.sl (.int .i64)) x3) :
    FnOk Try.prog 3 [.t x0, .t x1, .t x2, .t x3] [] (.t (.bool true)) [] := by
  obtain ⟨sm, rfl, hs, _⟩ := ints_in h0
  obtain ⟨raw, rfl, hr⟩ := pieces_in h1
  obtain ⟨li, rfl, _, _⟩ := int_in h2
  obtain ⟨l, rfl, hl, wf⟩ := ints_in h3
  exact danswers_fn sm raw li l hs hr hl wf
end Go.Proofs.Ytpfolkjimdmdhaa
