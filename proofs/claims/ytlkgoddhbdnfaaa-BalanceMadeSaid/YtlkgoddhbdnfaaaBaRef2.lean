/- The reference of chapter 34: Imbalance, Error, Bounds, Windows; SameInts. No condition. -/
import Derived.Test.YtlkgoddhbdnfaaaBaRef
import Derived.Test.YtlkgoddhbdnfaaaKIntB
namespace Go.Proofs.Ytlkgoddhbdnfaaa
open Go.RowKit Sy
set_option linter.unusedVariables false
set_option linter.unusedSimpArgs false
set_option maxRecDepth 100000 in
theorem rimb_fn (l : List Bal) (f t : Int) (hl : l.length ≤ 9223372036854775807) (x y : Int) (hc : imbV l f t = (x, y)) : FnOk Try.prog 28 [.t (encBs l), .t (.int f), .t (.int t)] [] (.tup [.t (.int x), .t (.int y)]) [] := by
  have c1 := rcheck_fn l hl _ rfl
  have c3 := rwindow_fn l f t hl _ rfl
  unfold imbV at hc
  by_cases h0 : checkV l = 0
  · rw [if_pos h0] at hc
    rw [h0] at c1
    by_cases h2 : WinOk l f t
    · rw [if_pos h2] at hc
      rw [if_pos h2] at c3
      obtain ⟨n, rfl⟩ : ∃ n : Nat, f = (n : Int) := ⟨f.toNat, by have := h2.1; omega⟩
      obtain ⟨m, rfl⟩ : ∃ n : Nat, t = (n : Int) := ⟨t.toNat, by have := h2.1; have := h2.2.1; omega⟩
      obtain ⟨k1, k2⟩ := check0 h0
      have c4 := rmissing_fn l n m k1 k2 (by have := h2.2.1; omega) (by have := h2.2.2; omega)
      simp only [Int.toNat_natCast, Prod.mk.injEq] at hc
      rw [hc.1] at c4
      obtain ⟨_, rfl⟩ := hc
      refine FnOk.intro fact_mixed Try.func28 rfl Try.ntmps28 (by rfl) (by simp) ?_
      repeat (first | (refine nf1_sound rfl ?_; simp [go_sem, ↓IntWalk.iteOmega, IntWalk.iteOmega, IntWalk.toNatUp]; (repeat (refine And.intro (by omega) ?_)); try (refine ⟨DrawChk_of (by kernel_rfl), ?_⟩)) | (refine itePos (by omega) ?_; try simp [go_sem, ↓IntWalk.iteOmega, IntWalk.iteOmega, IntWalk.toNatUp]) | (refine iteNeg (by omega) ?_; try simp [go_sem, ↓IntWalk.iteOmega, IntWalk.iteOmega, IntWalk.toNatUp]))
      refine CallK.fn (c1) [] [] [] (by kernel_rfl) (by simp [go_sem, ↓IntWalk.iteOmega, IntWalk.iteOmega, IntWalk.toNatUp]) (by simp [go_sem, ↓IntWalk.iteOmega, IntWalk.iteOmega, IntWalk.toNatUp]) (by simp [go_sem, ↓IntWalk.iteOmega, IntWalk.iteOmega, IntWalk.toNatUp]) (Or.inl rfl) ?_
      simp [go_sem, ↓IntWalk.iteOmega, IntWalk.iteOmega, IntWalk.toNatUp]
      repeat (refine And.intro (by omega) ?_)
      try (refine ⟨DrawChk_of (by kernel_rfl), ?_⟩)
      repeat (first | (refine nf1_sound rfl ?_; simp [go_sem, ↓IntWalk.iteOmega, IntWalk.iteOmega, IntWalk.toNatUp]; (repeat (refine And.intro (by omega) ?_)); try (refine ⟨DrawChk_of (by kernel_rfl), ?_⟩)) | (refine itePos (by omega) ?_; try simp [go_sem, ↓IntWalk.iteOmega, IntWalk.iteOmega, IntWalk.toNatUp]) | (refine iteNeg (by omega) ?_; try simp [go_sem, ↓IntWalk.iteOmega, IntWalk.iteOmega, IntWalk.toNatUp]))
      refine CallK.fn (c3) [] [] [] (by kernel_rfl) (by simp [go_sem, ↓IntWalk.iteOmega, IntWalk.iteOmega, IntWalk.toNatUp]) (by simp [go_sem, ↓IntWalk.iteOmega, IntWalk.iteOmega, IntWalk.toNatUp]) (by simp [go_sem, ↓IntWalk.iteOmega, IntWalk.iteOmega, IntWalk.toNatUp]) (Or.inl rfl) ?_
      simp [go_sem, ↓IntWalk.iteOmega, IntWalk.iteOmega, IntWalk.toNatUp]
      repeat (refine And.intro (by omega) ?_)
      try (refine ⟨DrawChk_of (by kernel_rfl), ?_⟩)
      repeat (first | (refine nf1_sound rfl ?_; simp [go_sem, ↓IntWalk.iteOmega, IntWalk.iteOmega, IntWalk.toNatUp]; (repeat (refine And.intro (by omega) ?_)); try (refine ⟨DrawChk_of (by kernel_rfl), ?_⟩)) | (refine itePos (by omega) ?_; try simp [go_sem, ↓IntWalk.iteOmega, IntWalk.iteOmega, IntWalk.toNatUp]) | (refine iteNeg (by omega) ?_; try simp [go_sem, ↓IntWalk.iteOmega, IntWalk.iteOmega, IntWalk.toNatUp]))
      refine CallK.fn (c4) [] [] [] (by kernel_rfl) (by simp [go_sem, ↓IntWalk.iteOmega, IntWalk.iteOmega, IntWalk.toNatUp]) (by simp [go_sem, ↓IntWalk.iteOmega, IntWalk.iteOmega, IntWalk.toNatUp]) (by simp [go_sem, ↓IntWalk.iteOmega, IntWalk.iteOmega, IntWalk.toNatUp]) (Or.inl rfl) ?_
      simp [go_sem, ↓IntWalk.iteOmega, IntWalk.iteOmega, IntWalk.toNatUp]
      repeat (refine And.intro (by omega) ?_)
      try (refine ⟨DrawChk_of (by kernel_rfl), ?_⟩)
      repeat (first | (refine nf1_sound rfl ?_; simp [go_sem, ↓IntWalk.iteOmega, IntWalk.iteOmega, IntWalk.toNatUp]; (repeat (refine And.intro (by omega) ?_)); try (refine ⟨DrawChk_of (by kernel_rfl), ?_⟩)) | (refine itePos (by omega) ?_; try simp [go_sem, ↓IntWalk.iteOmega, IntWalk.iteOmega, IntWalk.toNatUp]) | (refine iteNeg (by omega) ?_; try simp [go_sem, ↓IntWalk.iteOmega, IntWalk.iteOmega, IntWalk.toNatUp]))
      first | rw [RetQ_ret] | rw [RetQ_normal]
      refine ⟨[], ?_⟩
      simp [go_sem, ↓IntWalk.iteOmega, IntWalk.iteOmega, IntWalk.toNatUp]
    · rw [if_neg h2] at hc
      rw [if_neg h2] at c3
      simp only [Prod.mk.injEq] at hc
      obtain ⟨rfl, rfl⟩ := hc
      refine FnOk.intro fact_mixed Try.func28 rfl Try.ntmps28 (by rfl) (by simp) ?_
      repeat (first | (refine nf1_sound rfl ?_; simp [go_sem, ↓IntWalk.iteOmega, IntWalk.iteOmega, IntWalk.toNatUp]; (repeat (refine And.intro (by omega) ?_)); try (refine ⟨DrawChk_of (by kernel_rfl), ?_⟩)) | (refine itePos (by omega) ?_; try simp [go_sem, ↓IntWalk.iteOmega, IntWalk.iteOmega, IntWalk.toNatUp]) | (refine iteNeg (by omega) ?_; try simp [go_sem, ↓IntWalk.iteOmega, IntWalk.iteOmega, IntWalk.toNatUp]))
      refine CallK.fn (c1) [] [] [] (by kernel_rfl) (by simp [go_sem, ↓IntWalk.iteOmega, IntWalk.iteOmega, IntWalk.toNatUp]) (by simp [go_sem, ↓IntWalk.iteOmega, IntWalk.iteOmega, IntWalk.toNatUp]) (by simp [go_sem, ↓IntWalk.iteOmega, IntWalk.iteOmega, IntWalk.toNatUp]) (Or.inl rfl) ?_
      simp [go_sem, ↓IntWalk.iteOmega, IntWalk.iteOmega, IntWalk.toNatUp]
      repeat (refine And.intro (by omega) ?_)
      try (refine ⟨DrawChk_of (by kernel_rfl), ?_⟩)
      repeat (first | (refine nf1_sound rfl ?_; simp [go_sem, ↓IntWalk.iteOmega, IntWalk.iteOmega, IntWalk.toNatUp]; (repeat (refine And.intro (by omega) ?_)); try (refine ⟨DrawChk_of (by kernel_rfl), ?_⟩)) | (refine itePos (by omega) ?_; try simp [go_sem, ↓IntWalk.iteOmega, IntWalk.iteOmega, IntWalk.toNatUp]) | (refine iteNeg (by omega) ?_; try simp [go_sem, ↓IntWalk.iteOmega, IntWalk.iteOmega, IntWalk.toNatUp]))
      refine CallK.fn (c3) [] [] [] (by kernel_rfl) (by simp [go_sem, ↓IntWalk.iteOmega, IntWalk.iteOmega, IntWalk.toNatUp]) (by simp [go_sem, ↓IntWalk.iteOmega, IntWalk.iteOmega, IntWalk.toNatUp]) (by simp [go_sem, ↓IntWalk.iteOmega, IntWalk.iteOmega, IntWalk.toNatUp]) (Or.inl rfl) ?_
      simp [go_sem, ↓IntWalk.iteOmega, IntWalk.iteOmega, IntWalk.toNatUp]
      repeat (refine And.intro (by omega) ?_)
      try (refine ⟨DrawChk_of (by kernel_rfl), ?_⟩)
      repeat (first | (refine nf1_sound rfl ?_; simp [go_sem, ↓IntWalk.iteOmega, IntWalk.iteOmega, IntWalk.toNatUp]; (repeat (refine And.intro (by omega) ?_)); try (refine ⟨DrawChk_of (by kernel_rfl), ?_⟩)) | (refine itePos (by omega) ?_; try simp [go_sem, ↓IntWalk.iteOmega, IntWalk.iteOmega, IntWalk.toNatUp]) | (refine iteNeg (by omega) ?_; try simp [go_sem, ↓IntWalk.iteOmega, IntWalk.iteOmega, IntWalk.toNatUp]))
      first | rw [RetQ_ret] | rw [RetQ_normal]
      refine ⟨[], ?_⟩
      simp [go_sem, ↓IntWalk.iteOmega, IntWalk.iteOmega, IntWalk.toNatUp]
  · rw [if_neg h0] at hc
    simp only [Prod.mk.injEq] at hc
    obtain ⟨e, he⟩ : ∃ e, checkV l = e := ⟨_, rfl⟩
    rw [he] at c1 hc h0
    obtain ⟨rfl, rfl⟩ := hc
    refine FnOk.intro fact_mixed Try.func28 rfl Try.ntmps28 (by rfl) (by simp) ?_
    repeat (first | (refine nf1_sound rfl ?_; simp [go_sem, ↓IntWalk.iteOmega, IntWalk.iteOmega, IntWalk.toNatUp]; (repeat (refine And.intro (by omega) ?_)); try (refine ⟨DrawChk_of (by kernel_rfl), ?_⟩)) | (refine itePos (by omega) ?_; try simp [go_sem, ↓IntWalk.iteOmega, IntWalk.iteOmega, IntWalk.toNatUp]) | (refine iteNeg (by omega) ?_; try simp [go_sem, ↓IntWalk.iteOmega, IntWalk.iteOmega, IntWalk.toNatUp]))
    refine CallK.fn (c1) [] [] [] (by kernel_rfl) (by simp [go_sem, ↓IntWalk.iteOmega, IntWalk.iteOmega, IntWalk.toNatUp]) (by simp [go_sem, ↓IntWalk.iteOmega, IntWalk.iteOmega, IntWalk.toNatUp]) (by simp [go_sem, ↓IntWalk.iteOmega, IntWalk.iteOmega, IntWalk.toNatUp]) (Or.inl rfl) ?_
    simp [go_sem, ↓IntWalk.iteOmega, IntWalk.iteOmega, IntWalk.toNatUp]
    repeat (refine And.intro (by omega) ?_)
    try (refine ⟨DrawChk_of (by kernel_rfl), ?_⟩)
    repeat (first | (refine nf1_sound rfl ?_; simp [go_sem, ↓IntWalk.iteOmega, IntWalk.iteOmega, IntWalk.toNatUp, h0]; (repeat (refine And.intro (by omega) ?_)); try (refine ⟨DrawChk_of (by kernel_rfl), ?_⟩)) | (refine itePos (by omega) ?_; try simp [go_sem, ↓IntWalk.iteOmega, IntWalk.iteOmega, IntWalk.toNatUp, h0]) | (refine iteNeg (by omega) ?_; try simp [go_sem, ↓IntWalk.iteOmega, IntWalk.iteOmega, IntWalk.toNatUp, h0]))
    first | rw [RetQ_ret] | rw [RetQ_normal]
    refine ⟨[], ?_⟩
    simp [go_sem, ↓IntWalk.iteOmega, IntWalk.iteOmega, IntWalk.toNatUp]
set_option maxRecDepth 100000 in
theorem rerror_fn (l : List Bal) (a : Acc) (f t : Int) (hl : l.length ≤ 9223372036854775807) (x z : Int) (hc : errV l a f t = (x, z)) : FnOk Try.prog 29 [.t (encBs l), .t (encA a), .t (.int f), .t (.int t)] [] (.tup [.t (.int x), .t (.int z)]) [] := by
  have c1 := rcheck_fn l hl _ rfl
  have c2 := exact_fn a
  have c3 := rwindow_fn l f t hl _ rfl
  unfold errV checkA at hc
  by_cases h0 : checkV l = 0
  · rw [h0] at c1
    rw [if_pos h0] at hc
    by_cases h1 : AccOk a
    · rw [decide_eq_true h1] at c2
      rw [if_pos h1] at hc
      by_cases h2 : WinOk l f t
      · rw [if_pos h2] at c3
        rw [if_pos h2, if_pos rfl] at hc
        obtain ⟨k1, k2⟩ := check0 h0
        obtain ⟨n, rfl⟩ : ∃ n : Nat, f = (n : Int) := ⟨f.toNat, by have := h2.1; omega⟩
        obtain ⟨m, rfl⟩ : ∃ n : Nat, t = (n : Int) := ⟨t.toNat, by have := h2.1; have := h2.2.1; omega⟩
        have c5 := rwrong_fn l a n m k1 k2 h1 (by have := h2.2.1; omega) (by have := h2.2.2; omega)
        simp only [Int.toNat_natCast, Prod.mk.injEq] at hc
        obtain ⟨v, hv⟩ : ∃ u, wrongV l a n m = u := ⟨_, rfl⟩
        rw [hv] at c5 hc
        obtain ⟨rfl, rfl⟩ := hc
        obtain ⟨am, ap⟩ := a
        refine FnOk.intro fact_mixed Try.func29 rfl Try.ntmps29 (by rfl) (by simp) ?_
        repeat (first | (refine nf1_sound rfl ?_; simp [go_sem, ↓IntWalk.iteOmega, IntWalk.iteOmega, IntWalk.toNatUp]; (repeat (refine And.intro (by omega) ?_)); try (refine ⟨DrawChk_of (by kernel_rfl), ?_⟩)) | (refine itePos (by omega) ?_; try simp [go_sem, ↓IntWalk.iteOmega, IntWalk.iteOmega, IntWalk.toNatUp]) | (refine iteNeg (by omega) ?_; try simp [go_sem, ↓IntWalk.iteOmega, IntWalk.iteOmega, IntWalk.toNatUp]))
        refine CallK.fn (c1) [] [] [] (by kernel_rfl) (by simp [go_sem, ↓IntWalk.iteOmega, IntWalk.iteOmega, IntWalk.toNatUp]) (by simp [go_sem, ↓IntWalk.iteOmega, IntWalk.iteOmega, IntWalk.toNatUp]) (by simp [go_sem, ↓IntWalk.iteOmega, IntWalk.iteOmega, IntWalk.toNatUp]) (Or.inl rfl) ?_
        simp [go_sem, ↓IntWalk.iteOmega, IntWalk.iteOmega, IntWalk.toNatUp]
        repeat (refine And.intro (by omega) ?_)
        try (refine ⟨DrawChk_of (by kernel_rfl), ?_⟩)
        repeat (first | (refine nf1_sound rfl ?_; simp [go_sem, ↓IntWalk.iteOmega, IntWalk.iteOmega, IntWalk.toNatUp]; (repeat (refine And.intro (by omega) ?_)); try (refine ⟨DrawChk_of (by kernel_rfl), ?_⟩)) | (refine itePos (by omega) ?_; try simp [go_sem, ↓IntWalk.iteOmega, IntWalk.iteOmega, IntWalk.toNatUp]) | (refine iteNeg (by omega) ?_; try simp [go_sem, ↓IntWalk.iteOmega, IntWalk.iteOmega, IntWalk.toNatUp]))
        refine CallK.fn (c2) [] [] [] (by kernel_rfl) (by simp [go_sem, ↓IntWalk.iteOmega, IntWalk.iteOmega, IntWalk.toNatUp]) (by simp [go_sem, ↓IntWalk.iteOmega, IntWalk.iteOmega, IntWalk.toNatUp]) (by simp [go_sem, ↓IntWalk.iteOmega, IntWalk.iteOmega, IntWalk.toNatUp]) (Or.inl rfl) ?_
        simp [go_sem, ↓IntWalk.iteOmega, IntWalk.iteOmega, IntWalk.toNatUp]
        repeat (refine And.intro (by omega) ?_)
        try (refine ⟨DrawChk_of (by kernel_rfl), ?_⟩)
        repeat (first | (refine nf1_sound rfl ?_; simp [go_sem, ↓IntWalk.iteOmega, IntWalk.iteOmega, IntWalk.toNatUp]; (repeat (refine And.intro (by omega) ?_)); try (refine ⟨DrawChk_of (by kernel_rfl), ?_⟩)) | (refine itePos (by omega) ?_; try simp [go_sem, ↓IntWalk.iteOmega, IntWalk.iteOmega, IntWalk.toNatUp]) | (refine iteNeg (by omega) ?_; try simp [go_sem, ↓IntWalk.iteOmega, IntWalk.iteOmega, IntWalk.toNatUp]))
        refine CallK.fn (c3) [] [] [] (by kernel_rfl) (by simp [go_sem, ↓IntWalk.iteOmega, IntWalk.iteOmega, IntWalk.toNatUp]) (by simp [go_sem, ↓IntWalk.iteOmega, IntWalk.iteOmega, IntWalk.toNatUp]) (by simp [go_sem, ↓IntWalk.iteOmega, IntWalk.iteOmega, IntWalk.toNatUp]) (Or.inl rfl) ?_
        simp [go_sem, ↓IntWalk.iteOmega, IntWalk.iteOmega, IntWalk.toNatUp]
        repeat (refine And.intro (by omega) ?_)
        try (refine ⟨DrawChk_of (by kernel_rfl), ?_⟩)
        repeat (first | (refine nf1_sound rfl ?_; simp [go_sem, ↓IntWalk.iteOmega, IntWalk.iteOmega, IntWalk.toNatUp]; (repeat (refine And.intro (by omega) ?_)); try (refine ⟨DrawChk_of (by kernel_rfl), ?_⟩)) | (refine itePos (by omega) ?_; try simp [go_sem, ↓IntWalk.iteOmega, IntWalk.iteOmega, IntWalk.toNatUp]) | (refine iteNeg (by omega) ?_; try simp [go_sem, ↓IntWalk.iteOmega, IntWalk.iteOmega, IntWalk.toNatUp]))
        refine CallK.fn (c5) [] [] [] (by kernel_rfl) (by simp [go_sem, ↓IntWalk.iteOmega, IntWalk.iteOmega, IntWalk.toNatUp]) (by simp [go_sem, ↓IntWalk.iteOmega, IntWalk.iteOmega, IntWalk.toNatUp]) (by simp [go_sem, ↓IntWalk.iteOmega, IntWalk.iteOmega, IntWalk.toNatUp]) (Or.inl rfl) ?_
        simp [go_sem, ↓IntWalk.iteOmega, IntWalk.iteOmega, IntWalk.toNatUp]
        repeat (refine And.intro (by omega) ?_)
        try (refine ⟨DrawChk_of (by kernel_rfl), ?_⟩)
        repeat (first | (refine nf1_sound rfl ?_; simp [go_sem, ↓IntWalk.iteOmega, IntWalk.iteOmega, IntWalk.toNatUp]; (repeat (refine And.intro (by omega) ?_)); try (refine ⟨DrawChk_of (by kernel_rfl), ?_⟩)) | (refine itePos (by omega) ?_; try simp [go_sem, ↓IntWalk.iteOmega, IntWalk.iteOmega, IntWalk.toNatUp]) | (refine iteNeg (by omega) ?_; try simp [go_sem, ↓IntWalk.iteOmega, IntWalk.iteOmega, IntWalk.toNatUp]))
        first | rw [RetQ_ret] | rw [RetQ_normal]
        refine ⟨[], ?_⟩
        simp [go_sem, ↓IntWalk.iteOmega, IntWalk.iteOmega, IntWalk.toNatUp]
      · rw [if_neg h2] at c3
        rw [if_neg h2, if_neg (by decide)] at hc
        simp only [Prod.mk.injEq] at hc
        obtain ⟨rfl, rfl⟩ := hc
        obtain ⟨am, ap⟩ := a
        refine FnOk.intro fact_mixed Try.func29 rfl Try.ntmps29 (by rfl) (by simp) ?_
        repeat (first | (refine nf1_sound rfl ?_; simp [go_sem, ↓IntWalk.iteOmega, IntWalk.iteOmega, IntWalk.toNatUp]; (repeat (refine And.intro (by omega) ?_)); try (refine ⟨DrawChk_of (by kernel_rfl), ?_⟩)) | (refine itePos (by omega) ?_; try simp [go_sem, ↓IntWalk.iteOmega, IntWalk.iteOmega, IntWalk.toNatUp]) | (refine iteNeg (by omega) ?_; try simp [go_sem, ↓IntWalk.iteOmega, IntWalk.iteOmega, IntWalk.toNatUp]))
        refine CallK.fn (c1) [] [] [] (by kernel_rfl) (by simp [go_sem, ↓IntWalk.iteOmega, IntWalk.iteOmega, IntWalk.toNatUp]) (by simp [go_sem, ↓IntWalk.iteOmega, IntWalk.iteOmega, IntWalk.toNatUp]) (by simp [go_sem, ↓IntWalk.iteOmega, IntWalk.iteOmega, IntWalk.toNatUp]) (Or.inl rfl) ?_
        simp [go_sem, ↓IntWalk.iteOmega, IntWalk.iteOmega, IntWalk.toNatUp]
        repeat (refine And.intro (by omega) ?_)
        try (refine ⟨DrawChk_of (by kernel_rfl), ?_⟩)
        repeat (first | (refine nf1_sound rfl ?_; simp [go_sem, ↓IntWalk.iteOmega, IntWalk.iteOmega, IntWalk.toNatUp]; (repeat (refine And.intro (by omega) ?_)); try (refine ⟨DrawChk_of (by kernel_rfl), ?_⟩)) | (refine itePos (by omega) ?_; try simp [go_sem, ↓IntWalk.iteOmega, IntWalk.iteOmega, IntWalk.toNatUp]) | (refine iteNeg (by omega) ?_; try simp [go_sem, ↓IntWalk.iteOmega, IntWalk.iteOmega, IntWalk.toNatUp]))
        refine CallK.fn (c2) [] [] [] (by kernel_rfl) (by simp [go_sem, ↓IntWalk.iteOmega, IntWalk.iteOmega, IntWalk.toNatUp]) (by simp [go_sem, ↓IntWalk.iteOmega, IntWalk.iteOmega, IntWalk.toNatUp]) (by simp [go_sem, ↓IntWalk.iteOmega, IntWalk.iteOmega, IntWalk.toNatUp]) (Or.inl rfl) ?_
        simp [go_sem, ↓IntWalk.iteOmega, IntWalk.iteOmega, IntWalk.toNatUp]
        repeat (refine And.intro (by omega) ?_)
        try (refine ⟨DrawChk_of (by kernel_rfl), ?_⟩)
        repeat (first | (refine nf1_sound rfl ?_; simp [go_sem, ↓IntWalk.iteOmega, IntWalk.iteOmega, IntWalk.toNatUp]; (repeat (refine And.intro (by omega) ?_)); try (refine ⟨DrawChk_of (by kernel_rfl), ?_⟩)) | (refine itePos (by omega) ?_; try simp [go_sem, ↓IntWalk.iteOmega, IntWalk.iteOmega, IntWalk.toNatUp]) | (refine iteNeg (by omega) ?_; try simp [go_sem, ↓IntWalk.iteOmega, IntWalk.iteOmega, IntWalk.toNatUp]))
        refine CallK.fn (c3) [] [] [] (by kernel_rfl) (by simp [go_sem, ↓IntWalk.iteOmega, IntWalk.iteOmega, IntWalk.toNatUp]) (by simp [go_sem, ↓IntWalk.iteOmega, IntWalk.iteOmega, IntWalk.toNatUp]) (by simp [go_sem, ↓IntWalk.iteOmega, IntWalk.iteOmega, IntWalk.toNatUp]) (Or.inl rfl) ?_
        simp [go_sem, ↓IntWalk.iteOmega, IntWalk.iteOmega, IntWalk.toNatUp]
        repeat (refine And.intro (by omega) ?_)
        try (refine ⟨DrawChk_of (by kernel_rfl), ?_⟩)
        repeat (first | (refine nf1_sound rfl ?_; simp [go_sem, ↓IntWalk.iteOmega, IntWalk.iteOmega, IntWalk.toNatUp]; (repeat (refine And.intro (by omega) ?_)); try (refine ⟨DrawChk_of (by kernel_rfl), ?_⟩)) | (refine itePos (by omega) ?_; try simp [go_sem, ↓IntWalk.iteOmega, IntWalk.iteOmega, IntWalk.toNatUp]) | (refine iteNeg (by omega) ?_; try simp [go_sem, ↓IntWalk.iteOmega, IntWalk.iteOmega, IntWalk.toNatUp]))
        first | rw [RetQ_ret] | rw [RetQ_normal]
        refine ⟨[], ?_⟩
        simp [go_sem, ↓IntWalk.iteOmega, IntWalk.iteOmega, IntWalk.toNatUp]
    · rw [decide_eq_false h1] at c2
      rw [if_neg h1, if_neg (by decide)] at hc
      simp only [Prod.mk.injEq] at hc
      obtain ⟨rfl, rfl⟩ := hc
      obtain ⟨am, ap⟩ := a
      refine FnOk.intro fact_mixed Try.func29 rfl Try.ntmps29 (by rfl) (by simp) ?_
      repeat (first | (refine nf1_sound rfl ?_; simp [go_sem, ↓IntWalk.iteOmega, IntWalk.iteOmega, IntWalk.toNatUp]; (repeat (refine And.intro (by omega) ?_)); try (refine ⟨DrawChk_of (by kernel_rfl), ?_⟩)) | (refine itePos (by omega) ?_; try simp [go_sem, ↓IntWalk.iteOmega, IntWalk.iteOmega, IntWalk.toNatUp]) | (refine iteNeg (by omega) ?_; try simp [go_sem, ↓IntWalk.iteOmega, IntWalk.iteOmega, IntWalk.toNatUp]))
      refine CallK.fn (c1) [] [] [] (by kernel_rfl) (by simp [go_sem, ↓IntWalk.iteOmega, IntWalk.iteOmega, IntWalk.toNatUp]) (by simp [go_sem, ↓IntWalk.iteOmega, IntWalk.iteOmega, IntWalk.toNatUp]) (by simp [go_sem, ↓IntWalk.iteOmega, IntWalk.iteOmega, IntWalk.toNatUp]) (Or.inl rfl) ?_
      simp [go_sem, ↓IntWalk.iteOmega, IntWalk.iteOmega, IntWalk.toNatUp]
      repeat (refine And.intro (by omega) ?_)
      try (refine ⟨DrawChk_of (by kernel_rfl), ?_⟩)
      repeat (first | (refine nf1_sound rfl ?_; simp [go_sem, ↓IntWalk.iteOmega, IntWalk.iteOmega, IntWalk.toNatUp]; (repeat (refine And.intro (by omega) ?_)); try (refine ⟨DrawChk_of (by kernel_rfl), ?_⟩)) | (refine itePos (by omega) ?_; try simp [go_sem, ↓IntWalk.iteOmega, IntWalk.iteOmega, IntWalk.toNatUp]) | (refine iteNeg (by omega) ?_; try simp [go_sem, ↓IntWalk.iteOmega, IntWalk.iteOmega, IntWalk.toNatUp]))
      refine CallK.fn (c2) [] [] [] (by kernel_rfl) (by simp [go_sem, ↓IntWalk.iteOmega, IntWalk.iteOmega, IntWalk.toNatUp]) (by simp [go_sem, ↓IntWalk.iteOmega, IntWalk.iteOmega, IntWalk.toNatUp]) (by simp [go_sem, ↓IntWalk.iteOmega, IntWalk.iteOmega, IntWalk.toNatUp]) (Or.inl rfl) ?_
      simp [go_sem, ↓IntWalk.iteOmega, IntWalk.iteOmega, IntWalk.toNatUp]
      repeat (refine And.intro (by omega) ?_)
      try (refine ⟨DrawChk_of (by kernel_rfl), ?_⟩)
      repeat (first | (refine nf1_sound rfl ?_; simp [go_sem, ↓IntWalk.iteOmega, IntWalk.iteOmega, IntWalk.toNatUp]; (repeat (refine And.intro (by omega) ?_)); try (refine ⟨DrawChk_of (by kernel_rfl), ?_⟩)) | (refine itePos (by omega) ?_; try simp [go_sem, ↓IntWalk.iteOmega, IntWalk.iteOmega, IntWalk.toNatUp]) | (refine iteNeg (by omega) ?_; try simp [go_sem, ↓IntWalk.iteOmega, IntWalk.iteOmega, IntWalk.toNatUp]))
      first | rw [RetQ_ret] | rw [RetQ_normal]
      refine ⟨[], ?_⟩
      simp [go_sem, ↓IntWalk.iteOmega, IntWalk.iteOmega, IntWalk.toNatUp]
  · rw [if_neg h0] at hc
    obtain ⟨e, he⟩ : ∃ e, checkV l = e := ⟨_, rfl⟩
    rw [he] at c1 hc h0
    rw [if_neg h0] at hc
    simp only [Prod.mk.injEq] at hc
    obtain ⟨rfl, rfl⟩ := hc
    obtain ⟨am, ap⟩ := a
    refine FnOk.intro fact_mixed Try.func29 rfl Try.ntmps29 (by rfl) (by simp) ?_
    repeat (first | (refine nf1_sound rfl ?_; simp [go_sem, ↓IntWalk.iteOmega, IntWalk.iteOmega, IntWalk.toNatUp]; (repeat (refine And.intro (by omega) ?_)); try (refine ⟨DrawChk_of (by kernel_rfl), ?_⟩)) | (refine itePos (by omega) ?_; try simp [go_sem, ↓IntWalk.iteOmega, IntWalk.iteOmega, IntWalk.toNatUp]) | (refine iteNeg (by omega) ?_; try simp [go_sem, ↓IntWalk.iteOmega, IntWalk.iteOmega, IntWalk.toNatUp]))
    refine CallK.fn (c1) [] [] [] (by kernel_rfl) (by simp [go_sem, ↓IntWalk.iteOmega, IntWalk.iteOmega, IntWalk.toNatUp]) (by simp [go_sem, ↓IntWalk.iteOmega, IntWalk.iteOmega, IntWalk.toNatUp]) (by simp [go_sem, ↓IntWalk.iteOmega, IntWalk.iteOmega, IntWalk.toNatUp]) (Or.inl rfl) ?_
    simp [go_sem, ↓IntWalk.iteOmega, IntWalk.iteOmega, IntWalk.toNatUp]
    repeat (refine And.intro (by omega) ?_)
    try (refine ⟨DrawChk_of (by kernel_rfl), ?_⟩)
    repeat (first | (refine nf1_sound rfl ?_; simp [go_sem, ↓IntWalk.iteOmega, IntWalk.iteOmega, IntWalk.toNatUp, h0]; (repeat (refine And.intro (by omega) ?_)); try (refine ⟨DrawChk_of (by kernel_rfl), ?_⟩)) | (refine itePos (by omega) ?_; try simp [go_sem, ↓IntWalk.iteOmega, IntWalk.iteOmega, IntWalk.toNatUp, h0]) | (refine iteNeg (by omega) ?_; try simp [go_sem, ↓IntWalk.iteOmega, IntWalk.iteOmega, IntWalk.toNatUp, h0]))
    first | rw [RetQ_ret] | rw [RetQ_normal]
    refine ⟨[], ?_⟩
    simp [go_sem, ↓IntWalk.iteOmega, IntWalk.iteOmega, IntWalk.toNatUp]
set_option maxRecDepth 100000 in
theorem rbnd_fn (l : List Bal) (a : Acc) (f t : Int) (hl : l.length ≤ 9223372036854775807) (x y z : Int) (hc : bndV l a f t = (x, y, z)) : FnOk Try.prog 31 [.t (encBs l), .t (encA a), .t (.int f), .t (.int t)] [] (.tup [.t (.int x), .t (.int y), .t (.int z)]) [] := by
  obtain ⟨v, w, hv⟩ : ∃ v w, errV l a f t = (v, w) := ⟨_, _, rfl⟩
  have c1 := rerror_fn l a f t hl v w hv
  unfold errV at hv
  unfold bndV at hc
  by_cases h0 : checkA l a f t = 0
  · rw [if_pos h0] at hc hv
    obtain ⟨⟨k1, k2⟩, k3, h2⟩ := checkA0 h0
    obtain ⟨n, rfl⟩ : ∃ n : Nat, f = (n : Int) := ⟨f.toNat, by have := h2.1; omega⟩
    obtain ⟨m, rfl⟩ : ∃ n : Nat, t = (n : Int) := ⟨t.toNat, by have := h2.1; have := h2.2.1; omega⟩
    have g1 : n < m := by have := h2.2.1; omega
    have g2 : m < l.length := by have := h2.2.2; omega
    have c4 := rmissing_fn l n m k1 k2 g1 g2
    have b1 := miss_bound k1 k2 g1 g2
    have b2 := wrong_range k1 k2 k3 g1 g2
    simp only [Int.toNat_natCast, Prod.mk.injEq] at hc hv
    obtain ⟨u, hu⟩ : ∃ u, missV l n m = u := ⟨_, rfl⟩
    obtain ⟨v', hv'⟩ : ∃ u, wrongV l a n m = u := ⟨_, rfl⟩
    rw [hu] at c4 b1 hc
    rw [hv'] at b2 hc hv
    obtain ⟨rfl, rfl⟩ := hv
    obtain ⟨rfl, rfl, rfl⟩ := hc
    obtain ⟨am, ap⟩ := a
    refine FnOk.intro fact_mixed Try.func31 rfl Try.ntmps31 (by rfl) (by simp) ?_
    repeat (first | (refine nf1_sound rfl ?_; simp [go_sem, ↓IntWalk.iteOmega, IntWalk.iteOmega, IntWalk.toNatUp]; (repeat (refine And.intro (by omega) ?_)); try (refine ⟨DrawChk_of (by kernel_rfl), ?_⟩)) | (refine itePos (by omega) ?_; try simp [go_sem, ↓IntWalk.iteOmega, IntWalk.iteOmega, IntWalk.toNatUp]) | (refine iteNeg (by omega) ?_; try simp [go_sem, ↓IntWalk.iteOmega, IntWalk.iteOmega, IntWalk.toNatUp]))
    refine CallK.fn (c1) [] [] [] (by kernel_rfl) (by simp [go_sem, ↓IntWalk.iteOmega, IntWalk.iteOmega, IntWalk.toNatUp]) (by simp [go_sem, ↓IntWalk.iteOmega, IntWalk.iteOmega, IntWalk.toNatUp]) (by simp [go_sem, ↓IntWalk.iteOmega, IntWalk.iteOmega, IntWalk.toNatUp]) (Or.inl rfl) ?_
    simp [go_sem, ↓IntWalk.iteOmega, IntWalk.iteOmega, IntWalk.toNatUp]
    repeat (refine And.intro (by omega) ?_)
    try (refine ⟨DrawChk_of (by kernel_rfl), ?_⟩)
    repeat (first | (refine nf1_sound rfl ?_; simp [go_sem, ↓IntWalk.iteOmega, IntWalk.iteOmega, IntWalk.toNatUp]; (repeat (refine And.intro (by omega) ?_)); try (refine ⟨DrawChk_of (by kernel_rfl), ?_⟩)) | (refine itePos (by omega) ?_; try simp [go_sem, ↓IntWalk.iteOmega, IntWalk.iteOmega, IntWalk.toNatUp]) | (refine iteNeg (by omega) ?_; try simp [go_sem, ↓IntWalk.iteOmega, IntWalk.iteOmega, IntWalk.toNatUp]))
    refine CallK.fn (c4) [] [] [] (by kernel_rfl) (by simp [go_sem, ↓IntWalk.iteOmega, IntWalk.iteOmega, IntWalk.toNatUp]) (by simp [go_sem, ↓IntWalk.iteOmega, IntWalk.iteOmega, IntWalk.toNatUp]) (by simp [go_sem, ↓IntWalk.iteOmega, IntWalk.iteOmega, IntWalk.toNatUp]) (Or.inl rfl) ?_
    simp [go_sem, ↓IntWalk.iteOmega, IntWalk.iteOmega, IntWalk.toNatUp]
    repeat (refine And.intro (by omega) ?_)
    try (refine ⟨DrawChk_of (by kernel_rfl), ?_⟩)
    repeat (first | (refine nf1_sound rfl ?_; simp [go_sem, ↓IntWalk.iteOmega, IntWalk.iteOmega, IntWalk.toNatUp]; (repeat (refine And.intro (by omega) ?_)); try (refine ⟨DrawChk_of (by kernel_rfl), ?_⟩)) | (refine itePos (by omega) ?_; try simp [go_sem, ↓IntWalk.iteOmega, IntWalk.iteOmega, IntWalk.toNatUp]) | (refine iteNeg (by omega) ?_; try simp [go_sem, ↓IntWalk.iteOmega, IntWalk.iteOmega, IntWalk.toNatUp]))
    first | rw [RetQ_ret] | rw [RetQ_normal]
    refine ⟨[], ?_⟩
    simp [go_sem, ↓IntWalk.iteOmega, IntWalk.iteOmega, IntWalk.toNatUp]
  · rw [if_neg h0] at hc hv
    simp only [Prod.mk.injEq] at hc hv
    obtain ⟨e, he⟩ : ∃ e, checkA l a f t = e := ⟨_, rfl⟩
    rw [he] at hc h0 hv
    obtain ⟨rfl, rfl⟩ := hv
    obtain ⟨rfl, rfl, rfl⟩ := hc
    obtain ⟨am, ap⟩ := a
    refine FnOk.intro fact_mixed Try.func31 rfl Try.ntmps31 (by rfl) (by simp) ?_
    repeat (first | (refine nf1_sound rfl ?_; simp [go_sem, ↓IntWalk.iteOmega, IntWalk.iteOmega, IntWalk.toNatUp]; (repeat (refine And.intro (by omega) ?_)); try (refine ⟨DrawChk_of (by kernel_rfl), ?_⟩)) | (refine itePos (by omega) ?_; try simp [go_sem, ↓IntWalk.iteOmega, IntWalk.iteOmega, IntWalk.toNatUp]) | (refine iteNeg (by omega) ?_; try simp [go_sem, ↓IntWalk.iteOmega, IntWalk.iteOmega, IntWalk.toNatUp]))
    refine CallK.fn (c1) [] [] [] (by kernel_rfl) (by simp [go_sem, ↓IntWalk.iteOmega, IntWalk.iteOmega, IntWalk.toNatUp]) (by simp [go_sem, ↓IntWalk.iteOmega, IntWalk.iteOmega, IntWalk.toNatUp]) (by simp [go_sem, ↓IntWalk.iteOmega, IntWalk.iteOmega, IntWalk.toNatUp]) (Or.inl rfl) ?_
    simp [go_sem, ↓IntWalk.iteOmega, IntWalk.iteOmega, IntWalk.toNatUp]
    repeat (refine And.intro (by omega) ?_)
    try (refine ⟨DrawChk_of (by kernel_rfl), ?_⟩)
    repeat (first | (refine nf1_sound rfl ?_; simp [go_sem, ↓IntWalk.iteOmega, IntWalk.iteOmega, IntWalk.toNatUp, h0]; (repeat (refine And.intro (by omega) ?_)); try (refine ⟨DrawChk_of (by kernel_rfl), ?_⟩)) | (refine itePos (by omega) ?_; try simp [go_sem, ↓IntWalk.iteOmega, IntWalk.iteOmega, IntWalk.toNatUp, h0]) | (refine iteNeg (by omega) ?_; try simp [go_sem, ↓IntWalk.iteOmega, IntWalk.iteOmega, IntWalk.toNatUp, h0]))
    first | rw [RetQ_ret] | rw [RetQ_normal]
    refine ⟨[], ?_⟩
    simp [go_sem, ↓IntWalk.iteOmega, IntWalk.iteOmega, IntWalk.toNatUp]
def winsR (l : List Bal) (w : Int) : List Int × Int := if checkV l = 0 then (if WidthOk w then (winsV l w.toNat, 0) else ([], 25)) else ([], checkV l)
set_option maxRecDepth 100000 in
set_option maxHeartbeats 4000000 in
theorem windows_fn (l : List Bal) (w : Int) (hl : l.length ≤ 9223372036854775807) (ws : List Int) (e : Int) (hc : winsR l w = (ws, e)) : FnOk Try.prog 18 [.t (encBs l), .t (.int w)] [] (.tup [.own 1000, .t (.int e)]) [(1000, blkI ws)] := by
  have c1 := check_fn l hl _ rfl
  unfold winsR at hc
  by_cases h0 : checkV l = 0
  · rw [if_pos h0] at hc
    by_cases hw : WidthOk w
    · rw [if_pos hw] at hc
      simp only [Prod.mk.injEq] at hc
      obtain ⟨rfl, rfl⟩ := hc
      exact windows_ok l w h0 hw
    · rw [if_neg hw] at hc
      simp only [Prod.mk.injEq] at hc
      obtain ⟨rfl, rfl⟩ := hc
      rw [h0] at c1
      by_cases h1 : w < 1
      · refine FnOk.intro fact_mixed Try.func18 rfl Try.ntmps18 (by rfl) (by simp) ?_
        repeat (first | (refine nf1_sound rfl ?_; simp [go_sem, ↓IntWalk.iteOmega, IntWalk.iteOmega, IntWalk.toNatUp]; (repeat (refine And.intro (by omega) ?_)); try (refine ⟨DrawChk_of (by kernel_rfl), ?_⟩)) | (refine itePos (by omega) ?_; try simp [go_sem, ↓IntWalk.iteOmega, IntWalk.iteOmega, IntWalk.toNatUp]) | (refine iteNeg (by omega) ?_; try simp [go_sem, ↓IntWalk.iteOmega, IntWalk.iteOmega, IntWalk.toNatUp]))
        refine CallK.fn (c1) [] [] [] (by kernel_rfl) (by simp [go_sem, ↓IntWalk.iteOmega, IntWalk.iteOmega, IntWalk.toNatUp]) (by simp [go_sem, ↓IntWalk.iteOmega, IntWalk.iteOmega, IntWalk.toNatUp]) (by simp [go_sem, ↓IntWalk.iteOmega, IntWalk.iteOmega, IntWalk.toNatUp]) (Or.inl rfl) ?_
        simp [go_sem, ↓IntWalk.iteOmega, IntWalk.iteOmega, IntWalk.toNatUp]
        repeat (refine And.intro (by omega) ?_)
        try (refine ⟨DrawChk_of (by kernel_rfl), ?_⟩)
        repeat (first | (refine nf1_sound rfl ?_; simp [go_sem, ↓IntWalk.iteOmega, IntWalk.iteOmega, IntWalk.toNatUp]; (repeat (refine And.intro (by omega) ?_)); try (refine ⟨DrawChk_of (by kernel_rfl), ?_⟩)) | (refine itePos (by omega) ?_; try simp [go_sem, ↓IntWalk.iteOmega, IntWalk.iteOmega, IntWalk.toNatUp]) | (refine iteNeg (by omega) ?_; try simp [go_sem, ↓IntWalk.iteOmega, IntWalk.iteOmega, IntWalk.toNatUp]))
        first | rw [RetQ_ret] | rw [RetQ_normal]
        refine ⟨[(1000, none)], ?_⟩
        simp [go_sem, ↓IntWalk.iteOmega, IntWalk.iteOmega, IntWalk.toNatUp]
      · have h2 : 400 < w := by
          by_cases h : 400 < w
          · exact h
          · exact absurd ⟨by omega, by omega⟩ hw
        refine FnOk.intro fact_mixed Try.func18 rfl Try.ntmps18 (by rfl) (by simp) ?_
        repeat (first | (refine nf1_sound rfl ?_; simp [go_sem, ↓IntWalk.iteOmega, IntWalk.iteOmega, IntWalk.toNatUp]; (repeat (refine And.intro (by omega) ?_)); try (refine ⟨DrawChk_of (by kernel_rfl), ?_⟩)) | (refine itePos (by omega) ?_; try simp [go_sem, ↓IntWalk.iteOmega, IntWalk.iteOmega, IntWalk.toNatUp]) | (refine iteNeg (by omega) ?_; try simp [go_sem, ↓IntWalk.iteOmega, IntWalk.iteOmega, IntWalk.toNatUp]))
        refine CallK.fn (c1) [] [] [] (by kernel_rfl) (by simp [go_sem, ↓IntWalk.iteOmega, IntWalk.iteOmega, IntWalk.toNatUp]) (by simp [go_sem, ↓IntWalk.iteOmega, IntWalk.iteOmega, IntWalk.toNatUp]) (by simp [go_sem, ↓IntWalk.iteOmega, IntWalk.iteOmega, IntWalk.toNatUp]) (Or.inl rfl) ?_
        simp [go_sem, ↓IntWalk.iteOmega, IntWalk.iteOmega, IntWalk.toNatUp]
        repeat (refine And.intro (by omega) ?_)
        try (refine ⟨DrawChk_of (by kernel_rfl), ?_⟩)
        repeat (first | (refine nf1_sound rfl ?_; simp [go_sem, ↓IntWalk.iteOmega, IntWalk.iteOmega, IntWalk.toNatUp]; (repeat (refine And.intro (by omega) ?_)); try (refine ⟨DrawChk_of (by kernel_rfl), ?_⟩)) | (refine itePos (by omega) ?_; try simp [go_sem, ↓IntWalk.iteOmega, IntWalk.iteOmega, IntWalk.toNatUp]) | (refine iteNeg (by omega) ?_; try simp [go_sem, ↓IntWalk.iteOmega, IntWalk.iteOmega, IntWalk.toNatUp]))
        first | rw [RetQ_ret] | rw [RetQ_normal]
        refine ⟨[(1000, none)], ?_⟩
        simp [go_sem, ↓IntWalk.iteOmega, IntWalk.iteOmega, IntWalk.toNatUp]
  · rw [if_neg h0] at hc
    obtain ⟨c, hcc⟩ : ∃ c, checkV l = c := ⟨_, rfl⟩
    rw [hcc] at c1 hc h0
    simp only [Prod.mk.injEq] at hc
    obtain ⟨rfl, rfl⟩ := hc
    refine FnOk.intro fact_mixed Try.func18 rfl Try.ntmps18 (by rfl) (by simp) ?_
    repeat (first | (refine nf1_sound rfl ?_; simp [go_sem, ↓IntWalk.iteOmega, IntWalk.iteOmega, IntWalk.toNatUp]; (repeat (refine And.intro (by omega) ?_)); try (refine ⟨DrawChk_of (by kernel_rfl), ?_⟩)) | (refine itePos (by omega) ?_; try simp [go_sem, ↓IntWalk.iteOmega, IntWalk.iteOmega, IntWalk.toNatUp]) | (refine iteNeg (by omega) ?_; try simp [go_sem, ↓IntWalk.iteOmega, IntWalk.iteOmega, IntWalk.toNatUp]))
    refine CallK.fn (c1) [] [] [] (by kernel_rfl) (by simp [go_sem, ↓IntWalk.iteOmega, IntWalk.iteOmega, IntWalk.toNatUp]) (by simp [go_sem, ↓IntWalk.iteOmega, IntWalk.iteOmega, IntWalk.toNatUp]) (by simp [go_sem, ↓IntWalk.iteOmega, IntWalk.iteOmega, IntWalk.toNatUp]) (Or.inl rfl) ?_
    simp [go_sem, ↓IntWalk.iteOmega, IntWalk.iteOmega, IntWalk.toNatUp]
    repeat (refine And.intro (by omega) ?_)
    try (refine ⟨DrawChk_of (by kernel_rfl), ?_⟩)
    repeat (first | (refine nf1_sound rfl ?_; simp [go_sem, ↓IntWalk.iteOmega, IntWalk.iteOmega, IntWalk.toNatUp, h0]; (repeat (refine And.intro (by omega) ?_)); try (refine ⟨DrawChk_of (by kernel_rfl), ?_⟩)) | (refine itePos (by omega) ?_; try simp [go_sem, ↓IntWalk.iteOmega, IntWalk.iteOmega, IntWalk.toNatUp, h0]) | (refine iteNeg (by omega) ?_; try simp [go_sem, ↓IntWalk.iteOmega, IntWalk.iteOmega, IntWalk.toNatUp, h0]))
    first | rw [RetQ_ret] | rw [RetQ_normal]
    refine ⟨[(1000, none)], ?_⟩
    simp [go_sem, ↓IntWalk.iteOmega, IntWalk.iteOmega, IntWalk.toNatUp]
set_option maxRecDepth 100000 in
set_option maxHeartbeats 4000000 in
theorem rwindows_ok (l : List Bal) (w : Int) (hc : checkV l = 0) (hw : WidthOk w) : FnOk Try.prog 32 [.t (encBs l), .t (.int w)] [] (.tup [.own 1000, .t (.int 0)]) [(1000, blkI (winsV l w.toNat))] := by
  obtain ⟨n, rfl⟩ : ∃ n : Nat, w = (n : Int) := ⟨w.toNat, by have := hw.1; omega⟩
  obtain ⟨k1, k2⟩ := check0 hc
  have c1 := rcheck_fn l (by omega) _ hc
  have hw1 := hw.1
  have hw2 := hw.2
  rw [Int.toNat_natCast]
  have hV : winsV l n = winsU l n (l.length - n) := rfl
  rw [hV]
  refine FnOk.intro fact_mixed Try.func32 rfl Try.ntmps32 (by rfl) (by simp) ?_
  repeat (first | (refine nf1_sound rfl ?_; simp [go_sem, ↓IntWalk.iteOmega, IntWalk.iteOmega, IntWalk.toNatUp]; (repeat (refine And.intro (by omega) ?_)); try (refine ⟨DrawChk_of (by kernel_rfl), ?_⟩)) | (refine itePos (by omega) ?_; try simp [go_sem, ↓IntWalk.iteOmega, IntWalk.iteOmega, IntWalk.toNatUp]) | (refine iteNeg (by omega) ?_; try simp [go_sem, ↓IntWalk.iteOmega, IntWalk.iteOmega, IntWalk.toNatUp]))
  refine CallK.fn (c1) [] [] [] (by kernel_rfl) (by simp [go_sem, ↓IntWalk.iteOmega, IntWalk.iteOmega, IntWalk.toNatUp]) (by simp [go_sem, ↓IntWalk.iteOmega, IntWalk.iteOmega, IntWalk.toNatUp]) (by simp [go_sem, ↓IntWalk.iteOmega, IntWalk.iteOmega, IntWalk.toNatUp]) (Or.inl rfl) ?_
  simp [go_sem, ↓IntWalk.iteOmega, IntWalk.iteOmega, IntWalk.toNatUp]
  repeat (refine And.intro (by omega) ?_)
  try (refine ⟨DrawChk_of (by kernel_rfl), ?_⟩)
  repeat (first | (refine nf1_sound rfl ?_; simp [go_sem, ↓IntWalk.iteOmega, IntWalk.iteOmega, IntWalk.toNatUp]; (repeat (refine And.intro (by omega) ?_)); try (refine ⟨DrawChk_of (by kernel_rfl), ?_⟩)) | (refine itePos (by omega) ?_; try simp [go_sem, ↓IntWalk.iteOmega, IntWalk.iteOmega, IntWalk.toNatUp]) | (refine iteNeg (by omega) ?_; try simp [go_sem, ↓IntWalk.iteOmega, IntWalk.iteOmega, IntWalk.toNatUp]))
  refine nf1_sound' _ _ _ ?_; simp only [nf1]
  refine CW.loop (ι := Nat) (fun k => ⟨[(0, .t (encBs l)), (1, .t (.int n)), (8, .t (.int k)), (7, .own 500)], [(500, blkI (winsU l n k))]⟩) (fun k => k ≤ l.length - n) (fun k => l.length - n - k) 0 [(500, none)] (by omega) ?_ ?_
  · simp [go_sem, ↓IntWalk.iteOmega, IntWalk.iteOmega, IntWalk.toNatUp, winsU]
  intro k hk
  have hlen := winsU_len l n k
  have hsn := winsU_snoc l n k
  have e2 : ((k : Int) + n) = ((k + n : Nat) : Int) := by omega
  obtain ⟨ws, hws⟩ : ∃ ws, winsU l n k = ws := ⟨_, rfl⟩
  rw [hws] at hlen hsn ⊢
  by_cases hb : k < l.length - n
  · have c2 := rmissing_fn l k (k + n) k1 k2 (by omega) (by omega)
    have hb2 := miss_bound (f := k) (t := k + n) k1 k2 (by omega) (by omega)
    obtain ⟨m, hm⟩ : ∃ m, missV l k (k + n) = m := ⟨_, rfl⟩
    rw [hm] at c2 hb2 hsn
    repeat (first | (refine nf1_sound rfl ?_; simp [go_sem, ↓IntWalk.iteOmega, IntWalk.iteOmega, IntWalk.toNatUp]; (repeat (refine And.intro (by omega) ?_)); try (refine ⟨DrawChk_of (by kernel_rfl), ?_⟩)) | (refine itePos (by omega) ?_; try simp [go_sem, ↓IntWalk.iteOmega, IntWalk.iteOmega, IntWalk.toNatUp]) | (refine iteNeg (by omega) ?_; try simp [go_sem, ↓IntWalk.iteOmega, IntWalk.iteOmega, IntWalk.toNatUp]))
    refine CallK.fn (c2) [] [] [] (by kernel_rfl) (by simp [go_sem, ↓IntWalk.iteOmega, IntWalk.iteOmega, IntWalk.toNatUp]) (by simp [go_sem, ↓IntWalk.iteOmega, IntWalk.iteOmega, IntWalk.toNatUp]) (by simp [go_sem, ↓IntWalk.iteOmega, IntWalk.iteOmega, IntWalk.toNatUp]) (Or.inl rfl) ?_
    simp [go_sem, ↓IntWalk.iteOmega, IntWalk.iteOmega, IntWalk.toNatUp]
    repeat (refine And.intro (by omega) ?_)
    try (refine ⟨DrawChk_of (by kernel_rfl), ?_⟩)
    repeat (first | (refine nf1_sound rfl ?_; simp [go_sem, ↓IntWalk.iteOmega, IntWalk.iteOmega, IntWalk.toNatUp]; (repeat (refine And.intro (by omega) ?_)); try (refine ⟨DrawChk_of (by kernel_rfl), ?_⟩)) | (refine itePos (by omega) ?_; try simp [go_sem, ↓IntWalk.iteOmega, IntWalk.iteOmega, IntWalk.toNatUp]) | (refine iteNeg (by omega) ?_; try simp [go_sem, ↓IntWalk.iteOmega, IntWalk.iteOmega, IntWalk.toNatUp]))
    rw [RoundQ_normal]; refine ⟨k + 1, [(500, some 136)], ?_, ?_, ?_⟩
    · omega
    · omega
    simp [go_sem, ↓IntWalk.iteOmega, IntWalk.iteOmega, IntWalk.toNatUp, hsn]
  · obtain rfl : k = l.length - n := by omega
    repeat (first | (refine nf1_sound rfl ?_; simp [go_sem, ↓IntWalk.iteOmega, IntWalk.iteOmega, IntWalk.toNatUp]; (repeat (refine And.intro (by omega) ?_)); try (refine ⟨DrawChk_of (by kernel_rfl), ?_⟩)) | (refine itePos (by omega) ?_; try simp [go_sem, ↓IntWalk.iteOmega, IntWalk.iteOmega, IntWalk.toNatUp]) | (refine iteNeg (by omega) ?_; try simp [go_sem, ↓IntWalk.iteOmega, IntWalk.iteOmega, IntWalk.toNatUp]))
    first | rw [RetQ_ret] | rw [RetQ_normal]
    refine ⟨[(1000, some 500)], ?_⟩
    simp [go_sem, ↓IntWalk.iteOmega, IntWalk.iteOmega, IntWalk.toNatUp, hws]
set_option maxRecDepth 100000 in
set_option maxHeartbeats 4000000 in
theorem rwindows_fn (l : List Bal) (w : Int) (hl : l.length ≤ 9223372036854775807) (ws : List Int) (e : Int) (hc : winsR l w = (ws, e)) : FnOk Try.prog 32 [.t (encBs l), .t (.int w)] [] (.tup [.own 1000, .t (.int e)]) [(1000, blkI ws)] := by
  have c1 := rcheck_fn l hl _ rfl
  unfold winsR at hc
  by_cases h0 : checkV l = 0
  · rw [if_pos h0] at hc
    by_cases hw : WidthOk w
    · rw [if_pos hw] at hc
      simp only [Prod.mk.injEq] at hc
      obtain ⟨rfl, rfl⟩ := hc
      exact rwindows_ok l w h0 hw
    · rw [if_neg hw] at hc
      simp only [Prod.mk.injEq] at hc
      obtain ⟨rfl, rfl⟩ := hc
      rw [h0] at c1
      by_cases h1 : w < 1
      · refine FnOk.intro fact_mixed Try.func32 rfl Try.ntmps32 (by rfl) (by simp) ?_
        repeat (first | (refine nf1_sound rfl ?_; simp [go_sem, ↓IntWalk.iteOmega, IntWalk.iteOmega, IntWalk.toNatUp]; (repeat (refine And.intro (by omega) ?_)); try (refine ⟨DrawChk_of (by kernel_rfl), ?_⟩)) | (refine itePos (by omega) ?_; try simp [go_sem, ↓IntWalk.iteOmega, IntWalk.iteOmega, IntWalk.toNatUp]) | (refine iteNeg (by omega) ?_; try simp [go_sem, ↓IntWalk.iteOmega, IntWalk.iteOmega, IntWalk.toNatUp]))
        refine CallK.fn (c1) [] [] [] (by kernel_rfl) (by simp [go_sem, ↓IntWalk.iteOmega, IntWalk.iteOmega, IntWalk.toNatUp]) (by simp [go_sem, ↓IntWalk.iteOmega, IntWalk.iteOmega, IntWalk.toNatUp]) (by simp [go_sem, ↓IntWalk.iteOmega, IntWalk.iteOmega, IntWalk.toNatUp]) (Or.inl rfl) ?_
        simp [go_sem, ↓IntWalk.iteOmega, IntWalk.iteOmega, IntWalk.toNatUp]
        repeat (refine And.intro (by omega) ?_)
        try (refine ⟨DrawChk_of (by kernel_rfl), ?_⟩)
        repeat (first | (refine nf1_sound rfl ?_; simp [go_sem, ↓IntWalk.iteOmega, IntWalk.iteOmega, IntWalk.toNatUp]; (repeat (refine And.intro (by omega) ?_)); try (refine ⟨DrawChk_of (by kernel_rfl), ?_⟩)) | (refine itePos (by omega) ?_; try simp [go_sem, ↓IntWalk.iteOmega, IntWalk.iteOmega, IntWalk.toNatUp]) | (refine iteNeg (by omega) ?_; try simp [go_sem, ↓IntWalk.iteOmega, IntWalk.iteOmega, IntWalk.toNatUp]))
        first | rw [RetQ_ret] | rw [RetQ_normal]
        refine ⟨[(1000, none)], ?_⟩
        simp [go_sem, ↓IntWalk.iteOmega, IntWalk.iteOmega, IntWalk.toNatUp]
      · have h2 : 400 < w := by
          by_cases h : 400 < w
          · exact h
          · exact absurd ⟨by omega, by omega⟩ hw
        refine FnOk.intro fact_mixed Try.func32 rfl Try.ntmps32 (by rfl) (by simp) ?_
        repeat (first | (refine nf1_sound rfl ?_; simp [go_sem, ↓IntWalk.iteOmega, IntWalk.iteOmega, IntWalk.toNatUp]; (repeat (refine And.intro (by omega) ?_)); try (refine ⟨DrawChk_of (by kernel_rfl), ?_⟩)) | (refine itePos (by omega) ?_; try simp [go_sem, ↓IntWalk.iteOmega, IntWalk.iteOmega, IntWalk.toNatUp]) | (refine iteNeg (by omega) ?_; try simp [go_sem, ↓IntWalk.iteOmega, IntWalk.iteOmega, IntWalk.toNatUp]))
        refine CallK.fn (c1) [] [] [] (by kernel_rfl) (by simp [go_sem, ↓IntWalk.iteOmega, IntWalk.iteOmega, IntWalk.toNatUp]) (by simp [go_sem, ↓IntWalk.iteOmega, IntWalk.iteOmega, IntWalk.toNatUp]) (by simp [go_sem, ↓IntWalk.iteOmega, IntWalk.iteOmega, IntWalk.toNatUp]) (Or.inl rfl) ?_
        simp [go_sem, ↓IntWalk.iteOmega, IntWalk.iteOmega, IntWalk.toNatUp]
        repeat (refine And.intro (by omega) ?_)
        try (refine ⟨DrawChk_of (by kernel_rfl), ?_⟩)
        repeat (first | (refine nf1_sound rfl ?_; simp [go_sem, ↓IntWalk.iteOmega, IntWalk.iteOmega, IntWalk.toNatUp]; (repeat (refine And.intro (by omega) ?_)); try (refine ⟨DrawChk_of (by kernel_rfl), ?_⟩)) | (refine itePos (by omega) ?_; try simp [go_sem, ↓IntWalk.iteOmega, IntWalk.iteOmega, IntWalk.toNatUp]) | (refine iteNeg (by omega) ?_; try simp [go_sem, ↓IntWalk.iteOmega, IntWalk.iteOmega, IntWalk.toNatUp]))
        first | rw [RetQ_ret] | rw [RetQ_normal]
        refine ⟨[(1000, none)], ?_⟩
        simp [go_sem, ↓IntWalk.iteOmega, IntWalk.iteOmega, IntWalk.toNatUp]
  · rw [if_neg h0] at hc
    obtain ⟨c, hcc⟩ : ∃ c, checkV l = c := ⟨_, rfl⟩
    rw [hcc] at c1 hc h0
    simp only [Prod.mk.injEq] at hc
    obtain ⟨rfl, rfl⟩ := hc
    refine FnOk.intro fact_mixed Try.func32 rfl Try.ntmps32 (by rfl) (by simp) ?_
    repeat (first | (refine nf1_sound rfl ?_; simp [go_sem, ↓IntWalk.iteOmega, IntWalk.iteOmega, IntWalk.toNatUp]; (repeat (refine And.intro (by omega) ?_)); try (refine ⟨DrawChk_of (by kernel_rfl), ?_⟩)) | (refine itePos (by omega) ?_; try simp [go_sem, ↓IntWalk.iteOmega, IntWalk.iteOmega, IntWalk.toNatUp]) | (refine iteNeg (by omega) ?_; try simp [go_sem, ↓IntWalk.iteOmega, IntWalk.iteOmega, IntWalk.toNatUp]))
    refine CallK.fn (c1) [] [] [] (by kernel_rfl) (by simp [go_sem, ↓IntWalk.iteOmega, IntWalk.iteOmega, IntWalk.toNatUp]) (by simp [go_sem, ↓IntWalk.iteOmega, IntWalk.iteOmega, IntWalk.toNatUp]) (by simp [go_sem, ↓IntWalk.iteOmega, IntWalk.iteOmega, IntWalk.toNatUp]) (Or.inl rfl) ?_
    simp [go_sem, ↓IntWalk.iteOmega, IntWalk.iteOmega, IntWalk.toNatUp]
    repeat (refine And.intro (by omega) ?_)
    try (refine ⟨DrawChk_of (by kernel_rfl), ?_⟩)
    repeat (first | (refine nf1_sound rfl ?_; simp [go_sem, ↓IntWalk.iteOmega, IntWalk.iteOmega, IntWalk.toNatUp, h0]; (repeat (refine And.intro (by omega) ?_)); try (refine ⟨DrawChk_of (by kernel_rfl), ?_⟩)) | (refine itePos (by omega) ?_; try simp [go_sem, ↓IntWalk.iteOmega, IntWalk.iteOmega, IntWalk.toNatUp, h0]) | (refine iteNeg (by omega) ?_; try simp [go_sem, ↓IntWalk.iteOmega, IntWalk.iteOmega, IntWalk.toNatUp, h0]))
    first | rw [RetQ_ret] | rw [RetQ_normal]
    refine ⟨[(1000, none)], ?_⟩
    simp [go_sem, ↓IntWalk.iteOmega, IntWalk.iteOmega, IntWalk.toNatUp]
set_option maxRecDepth 100000 in
set_option maxHeartbeats 4000000 in
theorem sameInts_fn (a : List Int) (ha : a.length ≤ 1000000) : FnOk Try.prog 33 [.t (encIs a), .t (encIs a)] [] (.t (.bool true)) [] := by
  refine FnOk.intro fact_mixed Try.func33 rfl Try.ntmps33 (by rfl) (by simp) ?_
  repeat (first | (refine nf1_sound rfl ?_; simp [go_sem, ↓IntWalk.iteOmega, IntWalk.iteOmega, IntWalk.toNatUp]; (repeat (refine And.intro (by omega) ?_)); try (refine ⟨DrawChk_of (by kernel_rfl), ?_⟩)) | (refine itePos (by omega) ?_; try simp [go_sem, ↓IntWalk.iteOmega, IntWalk.iteOmega, IntWalk.toNatUp]) | (refine iteNeg (by omega) ?_; try simp [go_sem, ↓IntWalk.iteOmega, IntWalk.iteOmega, IntWalk.toNatUp]))
  refine nf1_sound' _ _ _ ?_; simp only [nf1]
  refine CW.loop (ι := Nat) (fun k => ⟨[(0, .t (encIs a)), (1, .t (encIs a)), (5, .t (.int k))], []⟩) (fun k => k ≤ a.length) (fun k => a.length - k) 0 [] (by omega) ?_ ?_
  · simp [go_sem, ↓IntWalk.iteOmega, IntWalk.iteOmega, IntWalk.toNatUp]
  intro k hk
  by_cases hb : k < a.length
  · obtain ⟨x, hx⟩ := has_get hb
    repeat (first | (refine nf1_sound rfl ?_; simp [go_sem, ↓IntWalk.iteOmega, IntWalk.iteOmega, IntWalk.toNatUp, hx]; (repeat (refine And.intro (by omega) ?_)); try (refine ⟨DrawChk_of (by kernel_rfl), ?_⟩)) | (refine itePos (by omega) ?_; try simp [go_sem, ↓IntWalk.iteOmega, IntWalk.iteOmega, IntWalk.toNatUp, hx]) | (refine iteNeg (by omega) ?_; try simp [go_sem, ↓IntWalk.iteOmega, IntWalk.iteOmega, IntWalk.toNatUp, hx]))
    rw [RoundQ_normal]; refine ⟨k + 1, [], ?_, ?_, ?_⟩
    · omega
    · omega
    simp [go_sem, ↓IntWalk.iteOmega, IntWalk.iteOmega, IntWalk.toNatUp]
  · obtain rfl : k = a.length := by omega
    repeat (first | (refine nf1_sound rfl ?_; simp [go_sem, ↓IntWalk.iteOmega, IntWalk.iteOmega, IntWalk.toNatUp]; (repeat (refine And.intro (by omega) ?_)); try (refine ⟨DrawChk_of (by kernel_rfl), ?_⟩)) | (refine itePos (by omega) ?_; try simp [go_sem, ↓IntWalk.iteOmega, IntWalk.iteOmega, IntWalk.toNatUp]) | (refine iteNeg (by omega) ?_; try simp [go_sem, ↓IntWalk.iteOmega, IntWalk.iteOmega, IntWalk.toNatUp]))
    first | rw [RetQ_ret] | rw [RetQ_normal]
    refine ⟨[], ?_⟩
    simp [go_sem, ↓IntWalk.iteOmega, IntWalk.iteOmega, IntWalk.toNatUp]
theorem winsR_len {l : List Bal} {w : Int} {ws : List Int} {e : Int} (h : winsR l w = (ws, e)) : ws.length ≤ 400 := by
  unfold winsR at h
  split at h
  · rename_i hc
    split at h
    · simp only [Prod.mk.injEq] at h
      obtain ⟨rfl, _⟩ := h
      have := (check0 hc).1
      simp [winsV]; omega
    · simp only [Prod.mk.injEq] at h
      obtain ⟨rfl, _⟩ := h
      simp
  · simp only [Prod.mk.injEq] at h
    obtain ⟨rfl, _⟩ := h
    simp
set_option maxRecDepth 100000 in
set_option maxHeartbeats 8000000 in
theorem agree_fn (l : List Bal) (a : Acc) (f t w : Int) (hl : l.length ≤ 9223372036854775807) :
    FnOk Try.prog 16 [.t (encBs l), .t (encA a), .t (.int f), .t (.int t), .t (.int w)] [] (.t (.bool true)) [] := by
  obtain ⟨i1, i2, hi⟩ : ∃ v w, imbV l f t = (v, w) := ⟨_, _, rfl⟩
  obtain ⟨e1, e2, he⟩ : ∃ v w, errV l a f t = (v, w) := ⟨_, _, rfl⟩
  obtain ⟨b1, b2, b3, hb⟩ : ∃ u v w, bndV l a f t = (u, v, w) := ⟨_, _, _, rfl⟩
  obtain ⟨ws, we, hw⟩ : ∃ v u, winsR l w = (v, u) := ⟨_, _, rfl⟩
  have hwl := winsR_len hw
  obtain ⟨cv, hcv⟩ : ∃ v, checkV l = v := ⟨_, rfl⟩
  have c1 := imb_fn l f t hl _ _ hi
  have c2 := rimb_fn l f t hl _ _ hi
  have c3 := error_fn l a f t hl _ _ he
  have c4 := rerror_fn l a f t hl _ _ he
  have c5 := check_fn l hl _ hcv
  have c6 := rcheck_fn l hl _ hcv
  have c7 := bnd_fn l a f t hl _ _ _ hb
  have c8 := rbnd_fn l a f t hl _ _ _ hb
  have c9 := windows_fn l w hl _ _ hw
  have c10 := rwindows_fn l w hl _ _ hw
  have c11 := sameInts_fn ws (by omega)
  obtain ⟨am, ap⟩ := a
  refine FnOk.intro fact_mixed Try.func16 rfl Try.ntmps16 (by rfl) (by simp) ?_
  repeat (first | (refine nf1_sound rfl ?_; simp [go_sem, ↓IntWalk.iteOmega, IntWalk.iteOmega, IntWalk.toNatUp]; (repeat (refine And.intro (by omega) ?_)); try (refine ⟨DrawChk_of (by kernel_rfl), ?_⟩)) | (refine itePos (by omega) ?_; try simp [go_sem, ↓IntWalk.iteOmega, IntWalk.iteOmega, IntWalk.toNatUp]) | (refine iteNeg (by omega) ?_; try simp [go_sem, ↓IntWalk.iteOmega, IntWalk.iteOmega, IntWalk.toNatUp]))
  refine CallK.fn (c1) [] [] [] (by kernel_rfl) (by simp [go_sem, ↓IntWalk.iteOmega, IntWalk.iteOmega, IntWalk.toNatUp]) (by simp [go_sem, ↓IntWalk.iteOmega, IntWalk.iteOmega, IntWalk.toNatUp]) (by simp [go_sem, ↓IntWalk.iteOmega, IntWalk.iteOmega, IntWalk.toNatUp]) (Or.inl rfl) ?_
  simp [go_sem, ↓IntWalk.iteOmega, IntWalk.iteOmega, IntWalk.toNatUp]
  repeat (refine And.intro (by omega) ?_)
  try (refine ⟨DrawChk_of (by kernel_rfl), ?_⟩)
  repeat (first | (refine nf1_sound rfl ?_; simp [go_sem, ↓IntWalk.iteOmega, IntWalk.iteOmega, IntWalk.toNatUp]; (repeat (refine And.intro (by omega) ?_)); try (refine ⟨DrawChk_of (by kernel_rfl), ?_⟩)) | (refine itePos (by omega) ?_; try simp [go_sem, ↓IntWalk.iteOmega, IntWalk.iteOmega, IntWalk.toNatUp]) | (refine iteNeg (by omega) ?_; try simp [go_sem, ↓IntWalk.iteOmega, IntWalk.iteOmega, IntWalk.toNatUp]))
  refine CallK.fn (c2) [] [] [] (by kernel_rfl) (by simp [go_sem, ↓IntWalk.iteOmega, IntWalk.iteOmega, IntWalk.toNatUp]) (by simp [go_sem, ↓IntWalk.iteOmega, IntWalk.iteOmega, IntWalk.toNatUp]) (by simp [go_sem, ↓IntWalk.iteOmega, IntWalk.iteOmega, IntWalk.toNatUp]) (Or.inl rfl) ?_
  simp [go_sem, ↓IntWalk.iteOmega, IntWalk.iteOmega, IntWalk.toNatUp]
  repeat (refine And.intro (by omega) ?_)
  try (refine ⟨DrawChk_of (by kernel_rfl), ?_⟩)
  repeat (first | (refine nf1_sound rfl ?_; simp [go_sem, ↓IntWalk.iteOmega, IntWalk.iteOmega, IntWalk.toNatUp]; (repeat (refine And.intro (by omega) ?_)); try (refine ⟨DrawChk_of (by kernel_rfl), ?_⟩)) | (refine itePos (by omega) ?_; try simp [go_sem, ↓IntWalk.iteOmega, IntWalk.iteOmega, IntWalk.toNatUp]) | (refine iteNeg (by omega) ?_; try simp [go_sem, ↓IntWalk.iteOmega, IntWalk.iteOmega, IntWalk.toNatUp]))
  refine CallK.fn (c3) [] [] [] (by kernel_rfl) (by simp [go_sem, ↓IntWalk.iteOmega, IntWalk.iteOmega, IntWalk.toNatUp]) (by simp [go_sem, ↓IntWalk.iteOmega, IntWalk.iteOmega, IntWalk.toNatUp]) (by simp [go_sem, ↓IntWalk.iteOmega, IntWalk.iteOmega, IntWalk.toNatUp]) (Or.inl rfl) ?_
  simp [go_sem, ↓IntWalk.iteOmega, IntWalk.iteOmega, IntWalk.toNatUp]
  repeat (refine And.intro (by omega) ?_)
  try (refine ⟨DrawChk_of (by kernel_rfl), ?_⟩)
  repeat (first | (refine nf1_sound rfl ?_; simp [go_sem, ↓IntWalk.iteOmega, IntWalk.iteOmega, IntWalk.toNatUp]; (repeat (refine And.intro (by omega) ?_)); try (refine ⟨DrawChk_of (by kernel_rfl), ?_⟩)) | (refine itePos (by omega) ?_; try simp [go_sem, ↓IntWalk.iteOmega, IntWalk.iteOmega, IntWalk.toNatUp]) | (refine iteNeg (by omega) ?_; try simp [go_sem, ↓IntWalk.iteOmega, IntWalk.iteOmega, IntWalk.toNatUp]))
  refine CallK.fn (c4) [] [] [] (by kernel_rfl) (by simp [go_sem, ↓IntWalk.iteOmega, IntWalk.iteOmega, IntWalk.toNatUp]) (by simp [go_sem, ↓IntWalk.iteOmega, IntWalk.iteOmega, IntWalk.toNatUp]) (by simp [go_sem, ↓IntWalk.iteOmega, IntWalk.iteOmega, IntWalk.toNatUp]) (Or.inl rfl) ?_
  simp [go_sem, ↓IntWalk.iteOmega, IntWalk.iteOmega, IntWalk.toNatUp]
  repeat (refine And.intro (by omega) ?_)
  try (refine ⟨DrawChk_of (by kernel_rfl), ?_⟩)
  repeat (first | (refine nf1_sound rfl ?_; simp [go_sem, ↓IntWalk.iteOmega, IntWalk.iteOmega, IntWalk.toNatUp]; (repeat (refine And.intro (by omega) ?_)); try (refine ⟨DrawChk_of (by kernel_rfl), ?_⟩)) | (refine itePos (by omega) ?_; try simp [go_sem, ↓IntWalk.iteOmega, IntWalk.iteOmega, IntWalk.toNatUp]) | (refine iteNeg (by omega) ?_; try simp [go_sem, ↓IntWalk.iteOmega, IntWalk.iteOmega, IntWalk.toNatUp]))
  refine CallK.fn (c5) [] [] [] (by kernel_rfl) (by simp [go_sem, ↓IntWalk.iteOmega, IntWalk.iteOmega, IntWalk.toNatUp]) (by simp [go_sem, ↓IntWalk.iteOmega, IntWalk.iteOmega, IntWalk.toNatUp]) (by simp [go_sem, ↓IntWalk.iteOmega, IntWalk.iteOmega, IntWalk.toNatUp]) (Or.inl rfl) ?_
  simp [go_sem, ↓IntWalk.iteOmega, IntWalk.iteOmega, IntWalk.toNatUp]
  repeat (refine And.intro (by omega) ?_)
  try (refine ⟨DrawChk_of (by kernel_rfl), ?_⟩)
  refine CallK.fn (c6) [] [] [] (by kernel_rfl) (by simp [go_sem, ↓IntWalk.iteOmega, IntWalk.iteOmega, IntWalk.toNatUp]) (by simp [go_sem, ↓IntWalk.iteOmega, IntWalk.iteOmega, IntWalk.toNatUp]) (by simp [go_sem, ↓IntWalk.iteOmega, IntWalk.iteOmega, IntWalk.toNatUp]) (Or.inl rfl) ?_
  simp [go_sem, ↓IntWalk.iteOmega, IntWalk.iteOmega, IntWalk.toNatUp]
  repeat (refine And.intro (by omega) ?_)
  try (refine ⟨DrawChk_of (by kernel_rfl), ?_⟩)
  repeat (first | (refine nf1_sound rfl ?_; simp [go_sem, ↓IntWalk.iteOmega, IntWalk.iteOmega, IntWalk.toNatUp]; (repeat (refine And.intro (by omega) ?_)); try (refine ⟨DrawChk_of (by kernel_rfl), ?_⟩)) | (refine itePos (by omega) ?_; try simp [go_sem, ↓IntWalk.iteOmega, IntWalk.iteOmega, IntWalk.toNatUp]) | (refine iteNeg (by omega) ?_; try simp [go_sem, ↓IntWalk.iteOmega, IntWalk.iteOmega, IntWalk.toNatUp]))
  refine CallK.fn (c7) [] [] [] (by kernel_rfl) (by simp [go_sem, ↓IntWalk.iteOmega, IntWalk.iteOmega, IntWalk.toNatUp]) (by simp [go_sem, ↓IntWalk.iteOmega, IntWalk.iteOmega, IntWalk.toNatUp]) (by simp [go_sem, ↓IntWalk.iteOmega, IntWalk.iteOmega, IntWalk.toNatUp]) (Or.inl rfl) ?_
  simp [go_sem, ↓IntWalk.iteOmega, IntWalk.iteOmega, IntWalk.toNatUp]
  repeat (refine And.intro (by omega) ?_)
  try (refine ⟨DrawChk_of (by kernel_rfl), ?_⟩)
  repeat (first | (refine nf1_sound rfl ?_; simp [go_sem, ↓IntWalk.iteOmega, IntWalk.iteOmega, IntWalk.toNatUp]; (repeat (refine And.intro (by omega) ?_)); try (refine ⟨DrawChk_of (by kernel_rfl), ?_⟩)) | (refine itePos (by omega) ?_; try simp [go_sem, ↓IntWalk.iteOmega, IntWalk.iteOmega, IntWalk.toNatUp]) | (refine iteNeg (by omega) ?_; try simp [go_sem, ↓IntWalk.iteOmega, IntWalk.iteOmega, IntWalk.toNatUp]))
  refine CallK.fn (c8) [] [] [] (by kernel_rfl) (by simp [go_sem, ↓IntWalk.iteOmega, IntWalk.iteOmega, IntWalk.toNatUp]) (by simp [go_sem, ↓IntWalk.iteOmega, IntWalk.iteOmega, IntWalk.toNatUp]) (by simp [go_sem, ↓IntWalk.iteOmega, IntWalk.iteOmega, IntWalk.toNatUp]) (Or.inl rfl) ?_
  simp [go_sem, ↓IntWalk.iteOmega, IntWalk.iteOmega, IntWalk.toNatUp]
  repeat (refine And.intro (by omega) ?_)
  try (refine ⟨DrawChk_of (by kernel_rfl), ?_⟩)
  repeat (first | (refine nf1_sound rfl ?_; simp [go_sem, ↓IntWalk.iteOmega, IntWalk.iteOmega, IntWalk.toNatUp]; (repeat (refine And.intro (by omega) ?_)); try (refine ⟨DrawChk_of (by kernel_rfl), ?_⟩)) | (refine itePos (by omega) ?_; try simp [go_sem, ↓IntWalk.iteOmega, IntWalk.iteOmega, IntWalk.toNatUp]) | (refine iteNeg (by omega) ?_; try simp [go_sem, ↓IntWalk.iteOmega, IntWalk.iteOmega, IntWalk.toNatUp]))
  refine CallK.fn (c9) [(1000, 201)] [] [] (by kernel_rfl) (by simp [go_sem, ↓IntWalk.iteOmega, IntWalk.iteOmega, IntWalk.toNatUp]) (by simp [go_sem, ↓IntWalk.iteOmega, IntWalk.iteOmega, IntWalk.toNatUp]) (by simp [go_sem, ↓IntWalk.iteOmega, IntWalk.iteOmega, IntWalk.toNatUp]) (Or.inl rfl) ?_
  simp [go_sem, ↓IntWalk.iteOmega, IntWalk.iteOmega, IntWalk.toNatUp]
  repeat (refine And.intro (by omega) ?_)
  try (refine ⟨DrawChk_of (by kernel_rfl), ?_⟩)
  repeat (first | (refine nf1_sound rfl ?_; simp [go_sem, ↓IntWalk.iteOmega, IntWalk.iteOmega, IntWalk.toNatUp]; (repeat (refine And.intro (by omega) ?_)); try (refine ⟨DrawChk_of (by kernel_rfl), ?_⟩)) | (refine itePos (by omega) ?_; try simp [go_sem, ↓IntWalk.iteOmega, IntWalk.iteOmega, IntWalk.toNatUp]) | (refine iteNeg (by omega) ?_; try simp [go_sem, ↓IntWalk.iteOmega, IntWalk.iteOmega, IntWalk.toNatUp]))
  refine CallK.fn (c10) [(1000, 207)] [] [] (by kernel_rfl) (by simp [go_sem, ↓IntWalk.iteOmega, IntWalk.iteOmega, IntWalk.toNatUp]) (by simp [go_sem, ↓IntWalk.iteOmega, IntWalk.iteOmega, IntWalk.toNatUp]) (by simp [go_sem, ↓IntWalk.iteOmega, IntWalk.iteOmega, IntWalk.toNatUp]) (Or.inl rfl) ?_
  simp [go_sem, ↓IntWalk.iteOmega, IntWalk.iteOmega, IntWalk.toNatUp]
  repeat (refine And.intro (by omega) ?_)
  try (refine ⟨DrawChk_of (by kernel_rfl), ?_⟩)
  repeat (first | (refine nf1_sound rfl ?_; simp [go_sem, ↓IntWalk.iteOmega, IntWalk.iteOmega, IntWalk.toNatUp]; (repeat (refine And.intro (by omega) ?_)); try (refine ⟨DrawChk_of (by kernel_rfl), ?_⟩)) | (refine itePos (by omega) ?_; try simp [go_sem, ↓IntWalk.iteOmega, IntWalk.iteOmega, IntWalk.toNatUp]) | (refine iteNeg (by omega) ?_; try simp [go_sem, ↓IntWalk.iteOmega, IntWalk.iteOmega, IntWalk.toNatUp]))
  refine CallK.fn (c11) [] [201, 207] [] (by kernel_rfl) (by simp [go_sem, ↓IntWalk.iteOmega, IntWalk.iteOmega, IntWalk.toNatUp]) (by simp [go_sem, ↓IntWalk.iteOmega, IntWalk.iteOmega, IntWalk.toNatUp]) (by simp [go_sem, ↓IntWalk.iteOmega, IntWalk.iteOmega, IntWalk.toNatUp]) (Or.inr ⟨by simp [go_sem, ↓IntWalk.iteOmega, IntWalk.iteOmega, IntWalk.toNatUp], by simp [go_sem, ↓IntWalk.iteOmega, IntWalk.iteOmega, IntWalk.toNatUp]⟩) ?_
  simp [go_sem, ↓IntWalk.iteOmega, IntWalk.iteOmega, IntWalk.toNatUp]
  repeat (refine And.intro (by omega) ?_)
  try (refine ⟨DrawChk_of (by kernel_rfl), ?_⟩)
  repeat (first | (refine nf1_sound rfl ?_; simp [go_sem, ↓IntWalk.iteOmega, IntWalk.iteOmega, IntWalk.toNatUp]; (repeat (refine And.intro (by omega) ?_)); try (refine ⟨DrawChk_of (by kernel_rfl), ?_⟩)) | (refine itePos (by omega) ?_; try simp [go_sem, ↓IntWalk.iteOmega, IntWalk.iteOmega, IntWalk.toNatUp]) | (refine iteNeg (by omega) ?_; try simp [go_sem, ↓IntWalk.iteOmega, IntWalk.iteOmega, IntWalk.toNatUp]))
  first | rw [RetQ_ret] | rw [RetQ_normal]
  refine ⟨[], ?_⟩
  simp [go_sem, ↓IntWalk.iteOmega, IntWalk.iteOmega, IntWalk.toNatUp]
end Go.Proofs.Ytlkgoddhbdnfaaa
