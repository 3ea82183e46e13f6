/- The reference's Prove as a contract. No condition. -/
import Derived.Test.YtlogekdicmiciaaPvRef
namespace Go.Proofs.Ytlogekdicmiciaa
open Go.RowKit Sy
set_option linter.unusedVariables false
set_option linter.unusedSimpArgs false
set_option maxRecDepth 100000 in
set_option maxHeartbeats 8000000 in
theorem rprove_fn (m : Pvr) (k : Mtr) (l : List Int) (hm : PvrOk m) (hk : MtrOk k) (hr : Pv.Runs l) (hlen : l.length ≤ 20) (a b c : Int) (ha : Pv.prove m.v m.t k.p l = (a, b, c)) :
    FnOk Try.prog 20 [.t (encPv m), .t (encM k), .t (encIs l)] [] (.tup [.t (.int a), .t (.int b), .t (.int c)]) [] := by
  have c1 := rpvalid_fn m
  have c2 := rmvalid_fn k
  rw [decide_eq_true hm] at c1
  rw [decide_eq_true hk] at c2
  have c3 := rrproper_fn l (by omega) true (by simpa using hr)
  have hv := hm.1
  have hp := hk.1
  have hmul := mul_range (show 0 ≤ 5 * m.v by omega) (show 5 * m.v ≤ 500000 by omega) (show 0 ≤ k.p by omega) hp.2
  have hok := hm
  obtain ⟨v, t⟩ := m
  obtain ⟨p, bb, ff⟩ := k
  simp only at hv hp hmul ha
  refine FnOk.intro fact_mixed Try.func20 rfl Try.ntmps20 (by rfl) (by simp) ?_
  repeat (first | (refine nf1_sound rfl ?_; simp [go_sem, ↓IntWalk.iteOmega, IntWalk.iteOmega, IntWalk.toNatUp]; (repeat (refine And.intro (by omega) ?_)); try (refine ⟨DrawChk_of (by kernel_rfl), ?_⟩)) | (refine itePos (by omega) ?_; try simp [go_sem, ↓IntWalk.iteOmega, IntWalk.iteOmega, IntWalk.toNatUp]) | (refine iteNeg (by omega) ?_; try simp [go_sem, ↓IntWalk.iteOmega, IntWalk.iteOmega, IntWalk.toNatUp]))
  refine CallK.fn (c1) [] [] [] (by kernel_rfl) (by simp [go_sem, ↓IntWalk.iteOmega, IntWalk.iteOmega, IntWalk.toNatUp]) (by simp [go_sem, ↓IntWalk.iteOmega, IntWalk.iteOmega, IntWalk.toNatUp]) (by simp [go_sem, ↓IntWalk.iteOmega, IntWalk.iteOmega, IntWalk.toNatUp]) (Or.inl rfl) ?_
  simp [go_sem, ↓IntWalk.iteOmega, IntWalk.iteOmega, IntWalk.toNatUp]
  repeat (refine And.intro (by omega) ?_)
  try (refine ⟨DrawChk_of (by kernel_rfl), ?_⟩)
  refine CallK.fn (c2) [] [] [] (by kernel_rfl) (by simp [go_sem, ↓IntWalk.iteOmega, IntWalk.iteOmega, IntWalk.toNatUp]) (by simp [go_sem, ↓IntWalk.iteOmega, IntWalk.iteOmega, IntWalk.toNatUp]) (by simp [go_sem, ↓IntWalk.iteOmega, IntWalk.iteOmega, IntWalk.toNatUp]) (Or.inl rfl) ?_
  simp [go_sem, ↓IntWalk.iteOmega, IntWalk.iteOmega, IntWalk.toNatUp]
  repeat (refine And.intro (by omega) ?_)
  try (refine ⟨DrawChk_of (by kernel_rfl), ?_⟩)
  repeat (first | (refine nf1_sound rfl ?_; simp [go_sem, ↓IntWalk.iteOmega, IntWalk.iteOmega, IntWalk.toNatUp]; (repeat (refine And.intro (by omega) ?_)); try (refine ⟨DrawChk_of (by kernel_rfl), ?_⟩)) | (refine itePos (by omega) ?_; try simp [go_sem, ↓IntWalk.iteOmega, IntWalk.iteOmega, IntWalk.toNatUp]) | (refine iteNeg (by omega) ?_; try simp [go_sem, ↓IntWalk.iteOmega, IntWalk.iteOmega, IntWalk.toNatUp]))
  refine CallK.fn (c3) [] [] [] (by kernel_rfl) (by simp [go_sem, ↓IntWalk.iteOmega, IntWalk.iteOmega, IntWalk.toNatUp]) (by simp [go_sem, ↓IntWalk.iteOmega, IntWalk.iteOmega, IntWalk.toNatUp]) (by simp [go_sem, ↓IntWalk.iteOmega, IntWalk.iteOmega, IntWalk.toNatUp]) (Or.inl rfl) ?_
  simp [go_sem, ↓IntWalk.iteOmega, IntWalk.iteOmega, IntWalk.toNatUp]
  repeat (refine And.intro (by omega) ?_)
  try (refine ⟨DrawChk_of (by kernel_rfl), ?_⟩)
  repeat (first | (refine nf1_sound rfl ?_; simp [go_sem, ↓IntWalk.iteOmega, IntWalk.iteOmega, IntWalk.toNatUp]; (repeat (refine And.intro (by omega) ?_)); try (refine ⟨DrawChk_of (by kernel_rfl), ?_⟩)) | (refine itePos (by omega) ?_; try simp [go_sem, ↓IntWalk.iteOmega, IntWalk.iteOmega, IntWalk.toNatUp]) | (refine iteNeg (by omega) ?_; try simp [go_sem, ↓IntWalk.iteOmega, IntWalk.iteOmega, IntWalk.toNatUp]))
  refine nf1_sound' _ _ _ ?_; simp only [nf1]
  refine CW.loop (ι := Nat) (fun i => ⟨[(2, .t (encIs l)), (3, .pt 103 [] 0), (4, .pt 104 [] 0), (9, .t (.int i))], [(103, .box 27 (.t (encPv ⟨v, t⟩))), (104, .box 29 (.t (encM ⟨p, bb, ff⟩)))]⟩)
    (fun i => i ≤ l.length - 4 ∧ Pv.go v t p i (l.drop i) = (a, b, c)) (fun i => l.length - i) 0 [(103, some 103), (104, some 104)] ⟨by omega, ha⟩ ?_ ?_
  · simp [go_sem, ↓IntWalk.iteOmega, IntWalk.iteOmega, IntWalk.toNatUp]
  rintro i ⟨hi, hgo⟩
  by_cases hb : i + 5 ≤ l.length
  · have hW := win_len (show i + 5 ≤ l.length by omega)
    have hWr := win_runs (i := i) (n := 5) hr
    have hWg : ∀ j, j < 5 → l[i + j]? = ((l.drop i).take 5)[j]? := by
      intro j hj
      rw [List.getElem?_take, if_pos hj, List.getElem?_drop]
    obtain ⟨W, hw⟩ : ∃ W, (l.drop i).take 5 = W := ⟨_, rfl⟩
    rw [hw] at hW hWr hWg
    have hWm : List.drop i (List.take (i + 5) (List.map encI l)) = W.map encI := by rw [slice_map, hw]
    have hil : (l.drop i).length = l.length - i := List.length_drop
    have hsr := sum_range hWr
    rw [hW] at hsr
    by_cases hrep : Pv.Rep t W
    · have cr := rrepeats_fn ⟨v, t⟩ W (by omega) true (by simp only [true_iff]; exact ⟨hok, by omega, hWr, hrep⟩)
      have hg : Pv.go v t p i (l.drop i) = Pv.factor v p W i := by rw [Pv.go_rep (by omega) (by rw [hw]; exact hrep), hw]
      rw [hg] at hgo
      repeat (first | (refine nf1_sound rfl ?_; simp [go_sem, ↓IntWalk.iteOmega, IntWalk.iteOmega, IntWalk.toNatUp, hWm]; (repeat (refine And.intro (by omega) ?_)); try (refine ⟨DrawChk_of (by kernel_rfl), ?_⟩)) | (refine itePos (by omega) ?_; try simp [go_sem, ↓IntWalk.iteOmega, IntWalk.iteOmega, IntWalk.toNatUp, hWm]) | (refine iteNeg (by omega) ?_; try simp [go_sem, ↓IntWalk.iteOmega, IntWalk.iteOmega, IntWalk.toNatUp, hWm]))
      refine CallK.fn (cr) [] [] [] (by kernel_rfl) (by simp [go_sem, ↓IntWalk.iteOmega, IntWalk.iteOmega, IntWalk.toNatUp, hWm]) (by simp [go_sem, ↓IntWalk.iteOmega, IntWalk.iteOmega, IntWalk.toNatUp, hWm]) (by simp [go_sem, ↓IntWalk.iteOmega, IntWalk.iteOmega, IntWalk.toNatUp, hWm]) (Or.inl rfl) ?_
      simp [go_sem, ↓IntWalk.iteOmega, IntWalk.iteOmega, IntWalk.toNatUp, hWm]
      repeat (refine And.intro (by omega) ?_)
      try (refine ⟨DrawChk_of (by kernel_rfl), ?_⟩)
      repeat (first | (refine nf1_sound rfl ?_; simp [go_sem, ↓IntWalk.iteOmega, IntWalk.iteOmega, IntWalk.toNatUp]; (repeat (refine And.intro (by omega) ?_)); try (refine ⟨DrawChk_of (by kernel_rfl), ?_⟩)) | (refine itePos (by omega) ?_; try simp [go_sem, ↓IntWalk.iteOmega, IntWalk.iteOmega, IntWalk.toNatUp]) | (refine iteNeg (by omega) ?_; try simp [go_sem, ↓IntWalk.iteOmega, IntWalk.iteOmega, IntWalk.toNatUp]))
      refine nf1_sound' _ _ _ ?_; simp only [nf1]
      refine CW.loop (ι := Nat) (fun j => ⟨[(2, .t (encIs l)), (3, .pt 103 [] 0), (4, .pt 104 [] 0), (9, .t (.int i)), (10, .t (.int (Pv.sumL (W.take j)))), (11, .t (.int j))], [(103, .box 27 (.t (encPv ⟨v, t⟩))), (104, .box 29 (.t (encM ⟨p, bb, ff⟩)))]⟩)
        (fun j => j ≤ 5) (fun j => 5 - j) 0 [(103, some 103), (104, some 104)] (by omega) ?_ ?_
      · simp [go_sem, ↓IntWalk.iteOmega, IntWalk.iteOmega, IntWalk.toNatUp, Pv.sumL]
      intro j hj
      by_cases hjb : j < 5
      · obtain ⟨x, hx⟩ := has_get (show j < W.length by omega)
        have hx2 : l[i + j]? = some x := by rw [hWg j hjb, hx]
        have hs := sum_snoc hx
        have hxr := hWr x (mem_get hx)
        have hsj := sum_range (l := W.take j) (fun y hy => hWr y (List.mem_of_mem_take hy))
        rw [List.length_take] at hsj
        have eij : ((i : Int) + (j : Int)).toNat = i + j := by omega
        repeat (first | (refine nf1_sound rfl ?_; simp [go_sem, ↓IntWalk.iteOmega, IntWalk.iteOmega, IntWalk.toNatUp, hx2, eij]; (repeat (refine And.intro (by omega) ?_)); try (refine ⟨DrawChk_of (by kernel_rfl), ?_⟩)) | (refine itePos (by omega) ?_; try simp [go_sem, ↓IntWalk.iteOmega, IntWalk.iteOmega, IntWalk.toNatUp, hx2, eij]) | (refine iteNeg (by omega) ?_; try simp [go_sem, ↓IntWalk.iteOmega, IntWalk.iteOmega, IntWalk.toNatUp, hx2, eij]))
        rw [RoundQ_normal]; refine ⟨j + 1, [(103, some 103), (104, some 104)], ?_, ?_, ?_⟩
        · omega
        · omega
        simp [go_sem, ↓IntWalk.iteOmega, IntWalk.iteOmega, IntWalk.toNatUp, hs]
      · obtain rfl : j = 5 := by omega
        rw [List.take_of_length_le (show W.length ≤ 5 by omega)]
        obtain ⟨S, hS⟩ : ∃ S, Pv.sumL W = S := ⟨_, rfl⟩
        rw [hS] at hsr ⊢
        have hh := rhalf_fn (5 * v * p * 100) S (by omega) (by omega) (by omega) (by omega)
        obtain ⟨F, hF⟩ : ∃ F, halfV (5 * v * p * 100) S = F := ⟨_, rfl⟩
        unfold Pv.factor at hgo
        rw [hS, hF] at hgo
        rw [hF] at hh
        by_cases f1 : F < 50000
        · rw [if_pos (.inl f1)] at hgo
          simp only [Prod.mk.injEq] at hgo
          obtain ⟨rfl, rfl, rfl⟩ := hgo
          repeat (first | (refine nf1_sound rfl ?_; simp [go_sem, ↓IntWalk.iteOmega, IntWalk.iteOmega, IntWalk.toNatUp]; (repeat (refine And.intro (by omega) ?_)); try (refine ⟨DrawChk_of (by kernel_rfl), ?_⟩)) | (refine itePos (by omega) ?_; try simp [go_sem, ↓IntWalk.iteOmega, IntWalk.iteOmega, IntWalk.toNatUp]) | (refine iteNeg (by omega) ?_; try simp [go_sem, ↓IntWalk.iteOmega, IntWalk.iteOmega, IntWalk.toNatUp]))
          refine CallK.fn (hh) [] [] [] (by kernel_rfl) (by simp [go_sem, ↓IntWalk.iteOmega, IntWalk.iteOmega, IntWalk.toNatUp]) (by simp [go_sem, ↓IntWalk.iteOmega, IntWalk.iteOmega, IntWalk.toNatUp]) (by simp [go_sem, ↓IntWalk.iteOmega, IntWalk.iteOmega, IntWalk.toNatUp]) (Or.inl rfl) ?_
          simp [go_sem, ↓IntWalk.iteOmega, IntWalk.iteOmega, IntWalk.toNatUp]
          repeat (refine And.intro (by omega) ?_)
          try (refine ⟨DrawChk_of (by kernel_rfl), ?_⟩)
          repeat (first | (refine nf1_sound rfl ?_; simp [go_sem, ↓IntWalk.iteOmega, IntWalk.iteOmega, IntWalk.toNatUp]; (repeat (refine And.intro (by omega) ?_)); try (refine ⟨DrawChk_of (by kernel_rfl), ?_⟩)) | (refine itePos (by omega) ?_; try simp [go_sem, ↓IntWalk.iteOmega, IntWalk.iteOmega, IntWalk.toNatUp]) | (refine iteNeg (by omega) ?_; try simp [go_sem, ↓IntWalk.iteOmega, IntWalk.iteOmega, IntWalk.toNatUp]))
          first | rw [RetQ_ret] | rw [RetQ_normal]
          refine ⟨[], ?_⟩
          simp [go_sem, ↓IntWalk.iteOmega, IntWalk.iteOmega, IntWalk.toNatUp]
        · by_cases f2 : 200000 < F
          · rw [if_pos (.inr f2)] at hgo
            simp only [Prod.mk.injEq] at hgo
            obtain ⟨rfl, rfl, rfl⟩ := hgo
            repeat (first | (refine nf1_sound rfl ?_; simp [go_sem, ↓IntWalk.iteOmega, IntWalk.iteOmega, IntWalk.toNatUp]; (repeat (refine And.intro (by omega) ?_)); try (refine ⟨DrawChk_of (by kernel_rfl), ?_⟩)) | (refine itePos (by omega) ?_; try simp [go_sem, ↓IntWalk.iteOmega, IntWalk.iteOmega, IntWalk.toNatUp]) | (refine iteNeg (by omega) ?_; try simp [go_sem, ↓IntWalk.iteOmega, IntWalk.iteOmega, IntWalk.toNatUp]))
            refine CallK.fn (hh) [] [] [] (by kernel_rfl) (by simp [go_sem, ↓IntWalk.iteOmega, IntWalk.iteOmega, IntWalk.toNatUp]) (by simp [go_sem, ↓IntWalk.iteOmega, IntWalk.iteOmega, IntWalk.toNatUp]) (by simp [go_sem, ↓IntWalk.iteOmega, IntWalk.iteOmega, IntWalk.toNatUp]) (Or.inl rfl) ?_
            simp [go_sem, ↓IntWalk.iteOmega, IntWalk.iteOmega, IntWalk.toNatUp]
            repeat (refine And.intro (by omega) ?_)
            try (refine ⟨DrawChk_of (by kernel_rfl), ?_⟩)
            repeat (first | (refine nf1_sound rfl ?_; simp [go_sem, ↓IntWalk.iteOmega, IntWalk.iteOmega, IntWalk.toNatUp]; (repeat (refine And.intro (by omega) ?_)); try (refine ⟨DrawChk_of (by kernel_rfl), ?_⟩)) | (refine itePos (by omega) ?_; try simp [go_sem, ↓IntWalk.iteOmega, IntWalk.iteOmega, IntWalk.toNatUp]) | (refine iteNeg (by omega) ?_; try simp [go_sem, ↓IntWalk.iteOmega, IntWalk.iteOmega, IntWalk.toNatUp]))
            first | rw [RetQ_ret] | rw [RetQ_normal]
            refine ⟨[], ?_⟩
            simp [go_sem, ↓IntWalk.iteOmega, IntWalk.iteOmega, IntWalk.toNatUp]
          · rw [if_neg (by omega)] at hgo
            simp only [Prod.mk.injEq] at hgo
            obtain ⟨rfl, rfl, rfl⟩ := hgo
            repeat (first | (refine nf1_sound rfl ?_; simp [go_sem, ↓IntWalk.iteOmega, IntWalk.iteOmega, IntWalk.toNatUp]; (repeat (refine And.intro (by omega) ?_)); try (refine ⟨DrawChk_of (by kernel_rfl), ?_⟩)) | (refine itePos (by omega) ?_; try simp [go_sem, ↓IntWalk.iteOmega, IntWalk.iteOmega, IntWalk.toNatUp]) | (refine iteNeg (by omega) ?_; try simp [go_sem, ↓IntWalk.iteOmega, IntWalk.iteOmega, IntWalk.toNatUp]))
            refine CallK.fn (hh) [] [] [] (by kernel_rfl) (by simp [go_sem, ↓IntWalk.iteOmega, IntWalk.iteOmega, IntWalk.toNatUp]) (by simp [go_sem, ↓IntWalk.iteOmega, IntWalk.iteOmega, IntWalk.toNatUp]) (by simp [go_sem, ↓IntWalk.iteOmega, IntWalk.iteOmega, IntWalk.toNatUp]) (Or.inl rfl) ?_
            simp [go_sem, ↓IntWalk.iteOmega, IntWalk.iteOmega, IntWalk.toNatUp]
            repeat (refine And.intro (by omega) ?_)
            try (refine ⟨DrawChk_of (by kernel_rfl), ?_⟩)
            repeat (first | (refine nf1_sound rfl ?_; simp [go_sem, ↓IntWalk.iteOmega, IntWalk.iteOmega, IntWalk.toNatUp]; (repeat (refine And.intro (by omega) ?_)); try (refine ⟨DrawChk_of (by kernel_rfl), ?_⟩)) | (refine itePos (by omega) ?_; try simp [go_sem, ↓IntWalk.iteOmega, IntWalk.iteOmega, IntWalk.toNatUp]) | (refine iteNeg (by omega) ?_; try simp [go_sem, ↓IntWalk.iteOmega, IntWalk.iteOmega, IntWalk.toNatUp]))
            first | rw [RetQ_ret] | rw [RetQ_normal]
            refine ⟨[], ?_⟩
            simp [go_sem, ↓IntWalk.iteOmega, IntWalk.iteOmega, IntWalk.toNatUp]
    · have cr := rrepeats_fn ⟨v, t⟩ W (by omega) false (by
        constructor
        · intro h; cases h
        · intro h; exact absurd h.2.2.2 hrep)
      have hg : Pv.go v t p i (l.drop i) = Pv.go v t p (i + 1) (l.drop (i + 1)) := by rw [Pv.go_step (by omega) (by rw [hw]; exact hrep), List.drop_drop]
      rw [hg] at hgo
      repeat (first | (refine nf1_sound rfl ?_; simp [go_sem, ↓IntWalk.iteOmega, IntWalk.iteOmega, IntWalk.toNatUp, hWm]; (repeat (refine And.intro (by omega) ?_)); try (refine ⟨DrawChk_of (by kernel_rfl), ?_⟩)) | (refine itePos (by omega) ?_; try simp [go_sem, ↓IntWalk.iteOmega, IntWalk.iteOmega, IntWalk.toNatUp, hWm]) | (refine iteNeg (by omega) ?_; try simp [go_sem, ↓IntWalk.iteOmega, IntWalk.iteOmega, IntWalk.toNatUp, hWm]))
      refine CallK.fn (cr) [] [] [] (by kernel_rfl) (by simp [go_sem, ↓IntWalk.iteOmega, IntWalk.iteOmega, IntWalk.toNatUp, hWm]) (by simp [go_sem, ↓IntWalk.iteOmega, IntWalk.iteOmega, IntWalk.toNatUp, hWm]) (by simp [go_sem, ↓IntWalk.iteOmega, IntWalk.iteOmega, IntWalk.toNatUp, hWm]) (Or.inl rfl) ?_
      simp [go_sem, ↓IntWalk.iteOmega, IntWalk.iteOmega, IntWalk.toNatUp, hWm]
      repeat (refine And.intro (by omega) ?_)
      try (refine ⟨DrawChk_of (by kernel_rfl), ?_⟩)
      repeat (first | (refine nf1_sound rfl ?_; simp [go_sem, ↓IntWalk.iteOmega, IntWalk.iteOmega, IntWalk.toNatUp]; (repeat (refine And.intro (by omega) ?_)); try (refine ⟨DrawChk_of (by kernel_rfl), ?_⟩)) | (refine itePos (by omega) ?_; try simp [go_sem, ↓IntWalk.iteOmega, IntWalk.iteOmega, IntWalk.toNatUp]) | (refine iteNeg (by omega) ?_; try simp [go_sem, ↓IntWalk.iteOmega, IntWalk.iteOmega, IntWalk.toNatUp]))
      rw [RoundQ_normal]; refine ⟨i + 1, [(103, some 103), (104, some 104)], ?_, ?_, ?_⟩
      · exact ⟨by omega, hgo⟩
      · omega
      simp [go_sem, ↓IntWalk.iteOmega, IntWalk.iteOmega, IntWalk.toNatUp]
  · rw [Pv.go_short (by rw [List.length_drop]; omega)] at hgo
    simp only [Prod.mk.injEq] at hgo
    obtain ⟨rfl, rfl, rfl⟩ := hgo
    repeat (first | (refine nf1_sound rfl ?_; simp [go_sem, ↓IntWalk.iteOmega, IntWalk.iteOmega, IntWalk.toNatUp]; (repeat (refine And.intro (by omega) ?_)); try (refine ⟨DrawChk_of (by kernel_rfl), ?_⟩)) | (refine itePos (by omega) ?_; try simp [go_sem, ↓IntWalk.iteOmega, IntWalk.iteOmega, IntWalk.toNatUp]) | (refine iteNeg (by omega) ?_; try simp [go_sem, ↓IntWalk.iteOmega, IntWalk.iteOmega, IntWalk.toNatUp]))
    first | rw [RetQ_ret] | rw [RetQ_normal]
    refine ⟨[], ?_⟩
    simp [go_sem, ↓IntWalk.iteOmega, IntWalk.iteOmega, IntWalk.toNatUp]
set_option maxRecDepth 100000 in
set_option maxHeartbeats 4000000 in
theorem rprove_any (m : Pvr) (k : Mtr) (l : List Int) (hlen : l.length ≤ 1000000) (a b c : Int) (ha : proveA m k l = (a, b, c)) :
    FnOk Try.prog 20 [.t (encPv m), .t (encM k), .t (encIs l)] [] (.tup [.t (.int a), .t (.int b), .t (.int c)]) [] := by
  have c1 := rpvalid_fn m
  have c2 := rmvalid_fn k
  unfold proveA at ha
  by_cases hm : PvrOk m
  · by_cases hk : MtrOk k
    · rw [if_pos ⟨hm, hk⟩] at ha
      rw [decide_eq_true hm] at c1
      rw [decide_eq_true hk] at c2
      by_cases h2 : l.length ≤ 20
      · rw [if_pos h2] at ha
        by_cases hr : Pv.Runs l
        · rw [if_pos hr] at ha
          exact rprove_fn m k l hm hk hr h2 a b c ha
        · have c3 := rrproper_fn l hlen false (by simpa using hr)
          rw [if_neg hr] at ha
          simp only [Prod.mk.injEq] at ha
          obtain ⟨rfl, rfl, rfl⟩ := ha
          refine FnOk.intro fact_mixed Try.func20 rfl Try.ntmps20 (by rfl) (by simp) ?_
          repeat (first | (refine nf1_sound rfl ?_; simp [go_sem, ↓IntWalk.iteOmega, IntWalk.iteOmega, IntWalk.toNatUp]; (repeat (refine And.intro (by omega) ?_)); try (refine ⟨DrawChk_of (by kernel_rfl), ?_⟩)) | (refine itePos (by omega) ?_; try simp [go_sem, ↓IntWalk.iteOmega, IntWalk.iteOmega, IntWalk.toNatUp]) | (refine iteNeg (by omega) ?_; try simp [go_sem, ↓IntWalk.iteOmega, IntWalk.iteOmega, IntWalk.toNatUp]))
          refine CallK.fn (c1) [] [] [] (by kernel_rfl) (by simp [go_sem, ↓IntWalk.iteOmega, IntWalk.iteOmega, IntWalk.toNatUp]) (by simp [go_sem, ↓IntWalk.iteOmega, IntWalk.iteOmega, IntWalk.toNatUp]) (by simp [go_sem, ↓IntWalk.iteOmega, IntWalk.iteOmega, IntWalk.toNatUp]) (Or.inl rfl) ?_
          simp [go_sem, ↓IntWalk.iteOmega, IntWalk.iteOmega, IntWalk.toNatUp]
          repeat (refine And.intro (by omega) ?_)
          try (refine ⟨DrawChk_of (by kernel_rfl), ?_⟩)
          refine CallK.fn (c2) [] [] [] (by kernel_rfl) (by simp [go_sem, ↓IntWalk.iteOmega, IntWalk.iteOmega, IntWalk.toNatUp]) (by simp [go_sem, ↓IntWalk.iteOmega, IntWalk.iteOmega, IntWalk.toNatUp]) (by simp [go_sem, ↓IntWalk.iteOmega, IntWalk.iteOmega, IntWalk.toNatUp]) (Or.inl rfl) ?_
          simp [go_sem, ↓IntWalk.iteOmega, IntWalk.iteOmega, IntWalk.toNatUp]
          repeat (refine And.intro (by omega) ?_)
          try (refine ⟨DrawChk_of (by kernel_rfl), ?_⟩)
          repeat (first | (refine nf1_sound rfl ?_; simp [go_sem, ↓IntWalk.iteOmega, IntWalk.iteOmega, IntWalk.toNatUp]; (repeat (refine And.intro (by omega) ?_)); try (refine ⟨DrawChk_of (by kernel_rfl), ?_⟩)) | (refine itePos (by omega) ?_; try simp [go_sem, ↓IntWalk.iteOmega, IntWalk.iteOmega, IntWalk.toNatUp]) | (refine iteNeg (by omega) ?_; try simp [go_sem, ↓IntWalk.iteOmega, IntWalk.iteOmega, IntWalk.toNatUp]))
          refine CallK.fn (c3) [] [] [] (by kernel_rfl) (by simp [go_sem, ↓IntWalk.iteOmega, IntWalk.iteOmega, IntWalk.toNatUp]) (by simp [go_sem, ↓IntWalk.iteOmega, IntWalk.iteOmega, IntWalk.toNatUp]) (by simp [go_sem, ↓IntWalk.iteOmega, IntWalk.iteOmega, IntWalk.toNatUp]) (Or.inl rfl) ?_
          simp [go_sem, ↓IntWalk.iteOmega, IntWalk.iteOmega, IntWalk.toNatUp]
          repeat (refine And.intro (by omega) ?_)
          try (refine ⟨DrawChk_of (by kernel_rfl), ?_⟩)
          repeat (first | (refine nf1_sound rfl ?_; simp [go_sem, ↓IntWalk.iteOmega, IntWalk.iteOmega, IntWalk.toNatUp]; (repeat (refine And.intro (by omega) ?_)); try (refine ⟨DrawChk_of (by kernel_rfl), ?_⟩)) | (refine itePos (by omega) ?_; try simp [go_sem, ↓IntWalk.iteOmega, IntWalk.iteOmega, IntWalk.toNatUp]) | (refine iteNeg (by omega) ?_; try simp [go_sem, ↓IntWalk.iteOmega, IntWalk.iteOmega, IntWalk.toNatUp]))
          first | rw [RetQ_ret] | rw [RetQ_normal]
          refine ⟨[], ?_⟩
          simp [go_sem, ↓IntWalk.iteOmega, IntWalk.iteOmega, IntWalk.toNatUp]
      · rw [if_neg h2] at ha
        simp only [Prod.mk.injEq] at ha
        obtain ⟨rfl, rfl, rfl⟩ := ha
        refine FnOk.intro fact_mixed Try.func20 rfl Try.ntmps20 (by rfl) (by simp) ?_
        repeat (first | (refine nf1_sound rfl ?_; simp [go_sem, ↓IntWalk.iteOmega, IntWalk.iteOmega, IntWalk.toNatUp]; (repeat (refine And.intro (by omega) ?_)); try (refine ⟨DrawChk_of (by kernel_rfl), ?_⟩)) | (refine itePos (by omega) ?_; try simp [go_sem, ↓IntWalk.iteOmega, IntWalk.iteOmega, IntWalk.toNatUp]) | (refine iteNeg (by omega) ?_; try simp [go_sem, ↓IntWalk.iteOmega, IntWalk.iteOmega, IntWalk.toNatUp]))
        refine CallK.fn (c1) [] [] [] (by kernel_rfl) (by simp [go_sem, ↓IntWalk.iteOmega, IntWalk.iteOmega, IntWalk.toNatUp]) (by simp [go_sem, ↓IntWalk.iteOmega, IntWalk.iteOmega, IntWalk.toNatUp]) (by simp [go_sem, ↓IntWalk.iteOmega, IntWalk.iteOmega, IntWalk.toNatUp]) (Or.inl rfl) ?_
        simp [go_sem, ↓IntWalk.iteOmega, IntWalk.iteOmega, IntWalk.toNatUp]
        repeat (refine And.intro (by omega) ?_)
        try (refine ⟨DrawChk_of (by kernel_rfl), ?_⟩)
        refine CallK.fn (c2) [] [] [] (by kernel_rfl) (by simp [go_sem, ↓IntWalk.iteOmega, IntWalk.iteOmega, IntWalk.toNatUp]) (by simp [go_sem, ↓IntWalk.iteOmega, IntWalk.iteOmega, IntWalk.toNatUp]) (by simp [go_sem, ↓IntWalk.iteOmega, IntWalk.iteOmega, IntWalk.toNatUp]) (Or.inl rfl) ?_
        simp [go_sem, ↓IntWalk.iteOmega, IntWalk.iteOmega, IntWalk.toNatUp]
        repeat (refine And.intro (by omega) ?_)
        try (refine ⟨DrawChk_of (by kernel_rfl), ?_⟩)
        repeat (first | (refine nf1_sound rfl ?_; simp [go_sem, ↓IntWalk.iteOmega, IntWalk.iteOmega, IntWalk.toNatUp]; (repeat (refine And.intro (by omega) ?_)); try (refine ⟨DrawChk_of (by kernel_rfl), ?_⟩)) | (refine itePos (by omega) ?_; try simp [go_sem, ↓IntWalk.iteOmega, IntWalk.iteOmega, IntWalk.toNatUp]) | (refine iteNeg (by omega) ?_; try simp [go_sem, ↓IntWalk.iteOmega, IntWalk.iteOmega, IntWalk.toNatUp]))
        first | rw [RetQ_ret] | rw [RetQ_normal]
        refine ⟨[], ?_⟩
        simp [go_sem, ↓IntWalk.iteOmega, IntWalk.iteOmega, IntWalk.toNatUp]
    · rw [if_neg (fun h => hk h.2)] at ha
      rw [decide_eq_true hm] at c1
      rw [decide_eq_false hk] at c2
      simp only [Prod.mk.injEq] at ha
      obtain ⟨rfl, rfl, rfl⟩ := ha
      refine FnOk.intro fact_mixed Try.func20 rfl Try.ntmps20 (by rfl) (by simp) ?_
      repeat (first | (refine nf1_sound rfl ?_; simp [go_sem, ↓IntWalk.iteOmega, IntWalk.iteOmega, IntWalk.toNatUp]; (repeat (refine And.intro (by omega) ?_)); try (refine ⟨DrawChk_of (by kernel_rfl), ?_⟩)) | (refine itePos (by omega) ?_; try simp [go_sem, ↓IntWalk.iteOmega, IntWalk.iteOmega, IntWalk.toNatUp]) | (refine iteNeg (by omega) ?_; try simp [go_sem, ↓IntWalk.iteOmega, IntWalk.iteOmega, IntWalk.toNatUp]))
      refine CallK.fn (c1) [] [] [] (by kernel_rfl) (by simp [go_sem, ↓IntWalk.iteOmega, IntWalk.iteOmega, IntWalk.toNatUp]) (by simp [go_sem, ↓IntWalk.iteOmega, IntWalk.iteOmega, IntWalk.toNatUp]) (by simp [go_sem, ↓IntWalk.iteOmega, IntWalk.iteOmega, IntWalk.toNatUp]) (Or.inl rfl) ?_
      simp [go_sem, ↓IntWalk.iteOmega, IntWalk.iteOmega, IntWalk.toNatUp]
      repeat (refine And.intro (by omega) ?_)
      try (refine ⟨DrawChk_of (by kernel_rfl), ?_⟩)
      refine CallK.fn (c2) [] [] [] (by kernel_rfl) (by simp [go_sem, ↓IntWalk.iteOmega, IntWalk.iteOmega, IntWalk.toNatUp]) (by simp [go_sem, ↓IntWalk.iteOmega, IntWalk.iteOmega, IntWalk.toNatUp]) (by simp [go_sem, ↓IntWalk.iteOmega, IntWalk.iteOmega, IntWalk.toNatUp]) (Or.inl rfl) ?_
      simp [go_sem, ↓IntWalk.iteOmega, IntWalk.iteOmega, IntWalk.toNatUp]
      repeat (refine And.intro (by omega) ?_)
      try (refine ⟨DrawChk_of (by kernel_rfl), ?_⟩)
      repeat (first | (refine nf1_sound rfl ?_; simp [go_sem, ↓IntWalk.iteOmega, IntWalk.iteOmega, IntWalk.toNatUp]; (repeat (refine And.intro (by omega) ?_)); try (refine ⟨DrawChk_of (by kernel_rfl), ?_⟩)) | (refine itePos (by omega) ?_; try simp [go_sem, ↓IntWalk.iteOmega, IntWalk.iteOmega, IntWalk.toNatUp]) | (refine iteNeg (by omega) ?_; try simp [go_sem, ↓IntWalk.iteOmega, IntWalk.iteOmega, IntWalk.toNatUp]))
      first | rw [RetQ_ret] | rw [RetQ_normal]
      refine ⟨[], ?_⟩
      simp [go_sem, ↓IntWalk.iteOmega, IntWalk.iteOmega, IntWalk.toNatUp]
  · rw [if_neg (fun h => hm h.1)] at ha
    rw [decide_eq_false hm] at c1
    simp only [Prod.mk.injEq] at ha
    obtain ⟨rfl, rfl, rfl⟩ := ha
    refine FnOk.intro fact_mixed Try.func20 rfl Try.ntmps20 (by rfl) (by simp) ?_
    repeat (first | (refine nf1_sound rfl ?_; simp [go_sem, ↓IntWalk.iteOmega, IntWalk.iteOmega, IntWalk.toNatUp]; (repeat (refine And.intro (by omega) ?_)); try (refine ⟨DrawChk_of (by kernel_rfl), ?_⟩)) | (refine itePos (by omega) ?_; try simp [go_sem, ↓IntWalk.iteOmega, IntWalk.iteOmega, IntWalk.toNatUp]) | (refine iteNeg (by omega) ?_; try simp [go_sem, ↓IntWalk.iteOmega, IntWalk.iteOmega, IntWalk.toNatUp]))
    refine CallK.fn (c1) [] [] [] (by kernel_rfl) (by simp [go_sem, ↓IntWalk.iteOmega, IntWalk.iteOmega, IntWalk.toNatUp]) (by simp [go_sem, ↓IntWalk.iteOmega, IntWalk.iteOmega, IntWalk.toNatUp]) (by simp [go_sem, ↓IntWalk.iteOmega, IntWalk.iteOmega, IntWalk.toNatUp]) (Or.inl rfl) ?_
    simp [go_sem, ↓IntWalk.iteOmega, IntWalk.iteOmega, IntWalk.toNatUp]
    repeat (refine And.intro (by omega) ?_)
    try (refine ⟨DrawChk_of (by kernel_rfl), ?_⟩)
    repeat (first | (refine nf1_sound rfl ?_; simp [go_sem, ↓IntWalk.iteOmega, IntWalk.iteOmega, IntWalk.toNatUp]; (repeat (refine And.intro (by omega) ?_)); try (refine ⟨DrawChk_of (by kernel_rfl), ?_⟩)) | (refine itePos (by omega) ?_; try simp [go_sem, ↓IntWalk.iteOmega, IntWalk.iteOmega, IntWalk.toNatUp]) | (refine iteNeg (by omega) ?_; try simp [go_sem, ↓IntWalk.iteOmega, IntWalk.iteOmega, IntWalk.toNatUp]))
    first | rw [RetQ_ret] | rw [RetQ_normal]
    refine ⟨[], ?_⟩
    simp [go_sem, ↓IntWalk.iteOmega, IntWalk.iteOmega, IntWalk.toNatUp]
end Go.Proofs.Ytlogekdicmiciaa
