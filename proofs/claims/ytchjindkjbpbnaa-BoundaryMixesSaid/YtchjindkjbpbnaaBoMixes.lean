/- The law BoundaryMixes. No condition. -/
import Derived.Test.YtchjindkjbpbnaaBoAwake
import Derived.Test.YtchjindkjbpbnaaSyT
namespace Go.Proofs.Ytchjindkjbpbnaa
open Go.RowKit Sy
set_option linter.unusedVariables false
set_option linter.unusedSimpArgs false
theorem sq_le {x y : Int} (h0 : 0 ≤ x) (h : x ≤ y) : x * x ≤ y * y := Int.mul_le_mul h h h0 (by omega)
theorem rootGo_ok {n : Int} (hn : n ≤ 4611686018427387904) : ∀ {k : Nat} {r : Int}, 0 ≤ r → r ≤ 2147483648 → r * r ≤ n → (n < (r + (2 ^ k : Nat)) * (r + (2 ^ k : Nat)) ∨ 2147483648 < r + (2 ^ k : Nat)) →
    (rootGo n k r) * (rootGo n k r) ≤ n ∧ n < (rootGo n k r + 1) * (rootGo n k r + 1)
  | 0, r, h0, hr, h1, h2 => by
    refine ⟨h1, ?_⟩
    show n < (r + 1) * (r + 1)
    rcases h2 with h2 | h2
    · simpa using h2
    · have e : r = 2147483648 := by simp at h2; omega
      subst e
      omega
  | k + 1, r, h0, hr, h1, h2 => by
    have e : (2 : Nat) ^ (k + 1) = 2 * 2 ^ k := by rw [Nat.pow_succ]; omega
    rw [e] at h2
    simp only [rootGo]
    obtain ⟨b, hb⟩ : ∃ b : Nat, 2 ^ k = b := ⟨_, rfl⟩
    rw [hb] at h2 ⊢
    have e2 : r + ((2 * b : Nat) : Int) = r + b + b := by omega
    rw [e2] at h2
    split
    · rename_i h
      exact rootGo_ok hn (k := k) (r := r + b) (by omega) h.1 h.2 (by rw [hb]; exact h2)
    · rename_i h
      refine rootGo_ok hn (k := k) (r := r) h0 hr h1 ?_
      rw [hb]
      by_cases h3 : r + (b : Int) ≤ 2147483648
      · left
        by_cases h4 : (r + (b : Int)) * (r + b) ≤ n
        · exact absurd ⟨h3, h4⟩ h
        · omega
      · right; omega
theorem rootUp_ok {n : Int} (h0 : 0 ≤ n) (hn : n ≤ 4611686018427387904) : (0 ≤ rootUpV n ∧ rootUpV n ≤ 2147483649) ∧ n ≤ rootUpV n * rootUpV n ∧ (rootUpV n = 0 ∨ (rootUpV n - 1) * (rootUpV n - 1) < n) := by
  have hr := rootV_range n
  have h := rootGo_ok hn (k := 32) (r := 0) (by omega) (by omega) (by omega) (.inr (by decide))
  have e : rootV n = rootGo n 32 0 := by unfold rootV; rw [if_pos ⟨h0, hn⟩]
  rw [← e] at h
  unfold rootUpV
  obtain ⟨s, hs⟩ : ∃ s, rootV n = s := ⟨_, rfl⟩
  rw [hs] at h hr ⊢
  by_cases h1 : s * s < n
  · rw [if_pos ⟨⟨h0, hn⟩, h1⟩]
    have e2 : s + 1 - 1 = s := by omega
    rw [e2]
    exact ⟨by omega, by omega, .inr h1⟩
  · rw [if_neg (fun hh => h1 hh.2)]
    refine ⟨by omega, by omega, ?_⟩
    by_cases h2 : s = 0
    · exact .inl h2
    · right
      have h3 : (s - 1) * (s - 1) = s * s - 2 * s + 1 := by rw [Int.sub_mul, Int.mul_sub]; omega
      omega
theorem rootUp_mono {n m : Int} (h0 : 0 ≤ n) (h : n ≤ m) (hm : m ≤ 4611686018427387904) : rootUpV n ≤ rootUpV m := by
  have a := rootUp_ok h0 (by omega)
  have b := rootUp_ok (show 0 ≤ m by omega) hm
  obtain ⟨u, hu⟩ : ∃ u, rootUpV n = u := ⟨_, rfl⟩
  obtain ⟨v, hv⟩ : ∃ u, rootUpV m = u := ⟨_, rfl⟩
  rw [hu] at a ⊢
  rw [hv] at b ⊢
  by_cases hc : u ≤ v
  · exact hc
  · exfalso
    have h1 := sq_le (x := v) (y := u - 1) b.1.1 (by omega)
    rcases a.2.2 with h2 | h2 <;> omega
theorem rootUp_twice {n : Int} (h0 : 0 ≤ n) (hn : 2 * n ≤ 4611686018427387904) : rootUpV (2 * n) ≤ 2 * rootUpV n := by
  have a := rootUp_ok h0 (by omega)
  have b := rootUp_ok (show 0 ≤ 2 * n by omega) hn
  obtain ⟨u, hu⟩ : ∃ u, rootUpV n = u := ⟨_, rfl⟩
  obtain ⟨v, hv⟩ : ∃ u, rootUpV (2 * n) = u := ⟨_, rfl⟩
  rw [hu] at a ⊢
  rw [hv] at b ⊢
  by_cases hc : v ≤ 2 * u
  · exact hc
  · exfalso
    have h1 := sq_le (x := 2 * u) (y := v - 1) (by omega) (by omega)
    have h2 : 2 * u * (2 * u) = 4 * (u * u) := by rw [Int.mul_assoc, Int.mul_comm u (2 * u), Int.mul_assoc]; omega
    have h3 := Int.mul_nonneg a.1.1 a.1.1
    rcases b.2.2 with h4 | h4 <;> omega
theorem cut_sum {m r : Int} (hm : 0 ≤ m ∧ m ≤ 1000000) (hr : 1 ≤ r ∧ r ≤ 5) : ∃ a b c, cutV m r = (a, b, c, 0) ∧ a + b + c = m ∧ 0 ≤ a ∧ 0 ≤ b ∧ 0 ≤ c ∧ a ≤ m ∧ b ≤ m ∧ c ≤ m := by
  unfold cutV
  rw [if_pos hm]
  by_cases h1 : r = 1
  · rw [if_pos h1]; exact ⟨_, _, _, rfl, by omega, by omega, by omega, by omega, by omega, by omega, by omega⟩
  rw [if_neg h1]
  by_cases h2 : r = 2
  · rw [if_pos h2]; exact ⟨_, _, _, rfl, by omega, by omega, by omega, by omega, by omega, by omega, by omega⟩
  rw [if_neg h2]
  by_cases h3 : r = 3
  · rw [if_pos h3]; exact ⟨_, _, _, rfl, by omega, by omega, by omega, by omega, by omega, by omega, by omega⟩
  rw [if_neg h3]
  by_cases h4 : r = 4
  · rw [if_pos h4]; exact ⟨_, _, _, rfl, by omega, by omega, by omega, by omega, by omega, by omega, by omega⟩
  rw [if_neg h4, if_pos (show r = 5 by omega)]
  exact ⟨_, _, _, rfl, by omega, by omega, by omega, by omega, by omega, by omega, by omega⟩
theorem mul_le3 {F x : Int} (h0 : 0 ≤ F) (h1 : F ≤ 65535) (h2 : 0 ≤ x) (h3 : x ≤ 4294967295) : 0 ≤ F * x ∧ F * x ≤ 281470681677825 :=
  ⟨Int.mul_nonneg h0 h2, by
    have := Int.mul_le_mul h1 h3 h2 (by omega : (0 : Int) ≤ 65535)
    omega⟩
theorem mix_ok {F t : Int} (h0 : 0 ≤ F) (h1 : F ≤ 65535) (h2 : 0 ≤ t) (h3 : t ≤ 8589934590) : mixV F t = (rootUpV (F * t), 0) := by
  unfold mixV
  rw [if_pos ⟨⟨h0, by omega⟩, h2, by omega⟩]
set_option maxRecDepth 100000 in
set_option maxHeartbeats 8000000 in
theorem mixes_fn (F a b R : Int) (hF : 0 ≤ F ∧ F ≤ 65535) (ha : 0 ≤ a ∧ a ≤ 4294967295) (hb : 0 ≤ b ∧ b ≤ 4294967295) (hR : 0 ≤ R ∧ R ≤ 255) :
    FnOk Try.prog 7 [.t (.lit (.int .u16 F)), .t (.lit (.int .u32 a)), .t (.lit (.int .u32 b)), .t (.lit (.int .u8 R))] [] (.t (.bool true)) [] := by
  obtain ⟨x, hx⟩ : ∃ x, min a b = x := ⟨_, rfl⟩
  obtain ⟨y, hy⟩ : ∃ x, max a b = x := ⟨_, rfl⟩
  have hxr : 0 ≤ x ∧ x ≤ 4294967295 := by omega
  have hyr : 0 ≤ y ∧ y ≤ 4294967295 := by omega
  have hxy : x ≤ y := by omega
  have m1 := mul_le3 hF.1 hF.2 hxr.1 hxr.2
  have m2 := mul_le3 hF.1 hF.2 hyr.1 hyr.2
  have m3 : F * x ≤ F * y := Int.mul_le_mul_of_nonneg_left hxy hF.1
  have m4 : F * (2 * x) = 2 * (F * x) := by rw [← Int.mul_assoc, Int.mul_comm F 2, Int.mul_assoc]
  have c1 := mix_fn F x _ _ (mix_ok hF.1 hF.2 hxr.1 (by omega))
  have c2 := mix_fn F y _ _ (mix_ok hF.1 hF.2 hyr.1 (by omega))
  have c3 := mix_fn F (2 * x) _ _ (mix_ok hF.1 hF.2 (by omega) (by omega))
  rw [m4] at c3
  have r1 := rootUp_ok m1.1 (by omega)
  have r2 := rootUp_mono m1.1 m3 (by omega)
  have r3 := rootUp_twice m1.1 (by omega)
  have r4 := rootUp_ok m2.1 (by omega)
  have r5 := rootUp_ok (show 0 ≤ 2 * (F * x) by omega) (by omega)
  obtain ⟨n, hn⟩ : ∃ n, F * x = n := ⟨_, rfl⟩
  rw [hn] at c1 c3 r1 r2 r3 r5 m1 m3
  obtain ⟨u, hu⟩ : ∃ u, rootUpV n = u := ⟨_, rfl⟩
  obtain ⟨v, hv⟩ : ∃ u, rootUpV (F * y) = u := ⟨_, rfl⟩
  obtain ⟨w, hw⟩ : ∃ u, rootUpV (2 * n) = u := ⟨_, rfl⟩
  rw [hu] at c1 r1 r2 r3
  rw [hv] at c2 r2 r4
  rw [hw] at c3 r3 r5
  obtain ⟨UU, hUU⟩ : ∃ U, u * u = U := ⟨_, rfl⟩
  have hUr : UU ≤ 4611686022722355201 := by
    have := sq_le r1.1.1 r1.1.2
    rw [hUU] at this
    omega
  rw [hUU] at r1
  obtain ⟨m, hm⟩ : ∃ m, a % 1000001 = m := ⟨_, rfl⟩
  obtain ⟨q, hq⟩ : ∃ m, R % 5 = m := ⟨_, rfl⟩
  obtain ⟨p1, p2, p3, hp, hps, hp1, hp2, hp3, hp4, hp5, hp6⟩ := cut_sum (m := m) (r := 1 + q) (by omega) (by omega)
  have c4 := cut_fn m (1 + q) _ _ _ _ hp
  refine FnOk.intro fact_mixed Try.func7 rfl Try.ntmps7 (by rfl) (by simp) ?_
  repeat (first | (refine nf1_sound rfl ?_; simp [go_sem, ↓IntWalk.iteOmega, IntWalk.iteOmega, IntWalk.toNatUp, hx, hy]; (repeat (refine And.intro (by omega) ?_)); try (refine ⟨DrawChk_of (by kernel_rfl), ?_⟩)) | (refine itePos (by omega) ?_; try simp [go_sem, ↓IntWalk.iteOmega, IntWalk.iteOmega, IntWalk.toNatUp, hx, hy]) | (refine iteNeg (by omega) ?_; try simp [go_sem, ↓IntWalk.iteOmega, IntWalk.iteOmega, IntWalk.toNatUp, hx, hy]) | (refine ⟨DrawChk_of (by kernel_rfl), ?_⟩))
  refine CallK.fn (c1) [] [] [] (by kernel_rfl) (by simp [go_sem, ↓IntWalk.iteOmega, IntWalk.iteOmega, IntWalk.toNatUp]) (by simp [go_sem, ↓IntWalk.iteOmega, IntWalk.iteOmega, IntWalk.toNatUp]) (by simp [go_sem, ↓IntWalk.iteOmega, IntWalk.iteOmega, IntWalk.toNatUp]) (Or.inl rfl) ?_
  simp [go_sem, ↓IntWalk.iteOmega, IntWalk.iteOmega, IntWalk.toNatUp]
  repeat (refine And.intro (by omega) ?_)
  try (refine ⟨DrawChk_of (by kernel_rfl), ?_⟩)
  repeat (first | (refine nf1_sound rfl ?_; simp [go_sem, ↓IntWalk.iteOmega, IntWalk.iteOmega, IntWalk.toNatUp]; (repeat (refine And.intro (by omega) ?_)); try (refine ⟨DrawChk_of (by kernel_rfl), ?_⟩)) | (refine itePos (by omega) ?_; try simp [go_sem, ↓IntWalk.iteOmega, IntWalk.iteOmega, IntWalk.toNatUp]) | (refine iteNeg (by omega) ?_; try simp [go_sem, ↓IntWalk.iteOmega, IntWalk.iteOmega, IntWalk.toNatUp]) | (refine ⟨DrawChk_of (by kernel_rfl), ?_⟩))
  refine CallK.fn (c2) [] [] [] (by kernel_rfl) (by simp [go_sem, ↓IntWalk.iteOmega, IntWalk.iteOmega, IntWalk.toNatUp]) (by simp [go_sem, ↓IntWalk.iteOmega, IntWalk.iteOmega, IntWalk.toNatUp]) (by simp [go_sem, ↓IntWalk.iteOmega, IntWalk.iteOmega, IntWalk.toNatUp]) (Or.inl rfl) ?_
  simp [go_sem, ↓IntWalk.iteOmega, IntWalk.iteOmega, IntWalk.toNatUp]
  repeat (refine And.intro (by omega) ?_)
  try (refine ⟨DrawChk_of (by kernel_rfl), ?_⟩)
  repeat (first | (refine nf1_sound rfl ?_; simp [go_sem, ↓IntWalk.iteOmega, IntWalk.iteOmega, IntWalk.toNatUp]; (repeat (refine And.intro (by omega) ?_)); try (refine ⟨DrawChk_of (by kernel_rfl), ?_⟩)) | (refine itePos (by omega) ?_; try simp [go_sem, ↓IntWalk.iteOmega, IntWalk.iteOmega, IntWalk.toNatUp]) | (refine iteNeg (by omega) ?_; try simp [go_sem, ↓IntWalk.iteOmega, IntWalk.iteOmega, IntWalk.toNatUp]) | (refine ⟨DrawChk_of (by kernel_rfl), ?_⟩))
  refine CallK.fn (c3) [] [] [] (by kernel_rfl) (by simp [go_sem, ↓IntWalk.iteOmega, IntWalk.iteOmega, IntWalk.toNatUp]) (by simp [go_sem, ↓IntWalk.iteOmega, IntWalk.iteOmega, IntWalk.toNatUp]) (by simp [go_sem, ↓IntWalk.iteOmega, IntWalk.iteOmega, IntWalk.toNatUp]) (Or.inl rfl) ?_
  simp [go_sem, ↓IntWalk.iteOmega, IntWalk.iteOmega, IntWalk.toNatUp]
  repeat (refine And.intro (by omega) ?_)
  try (refine ⟨DrawChk_of (by kernel_rfl), ?_⟩)
  repeat (first | (refine nf1_sound rfl ?_; simp [go_sem, ↓IntWalk.iteOmega, IntWalk.iteOmega, IntWalk.toNatUp, hm, hq]; (repeat (refine And.intro (by omega) ?_)); try (refine ⟨DrawChk_of (by kernel_rfl), ?_⟩)) | (refine itePos (by omega) ?_; try simp [go_sem, ↓IntWalk.iteOmega, IntWalk.iteOmega, IntWalk.toNatUp, hm, hq]) | (refine iteNeg (by omega) ?_; try simp [go_sem, ↓IntWalk.iteOmega, IntWalk.iteOmega, IntWalk.toNatUp, hm, hq]) | (refine ⟨DrawChk_of (by kernel_rfl), ?_⟩))
  refine CallK.fn (c4) [] [] [] (by kernel_rfl) (by simp [go_sem, ↓IntWalk.iteOmega, IntWalk.iteOmega, IntWalk.toNatUp]) (by simp [go_sem, ↓IntWalk.iteOmega, IntWalk.iteOmega, IntWalk.toNatUp]) (by simp [go_sem, ↓IntWalk.iteOmega, IntWalk.iteOmega, IntWalk.toNatUp]) (Or.inl rfl) ?_
  simp [go_sem, ↓IntWalk.iteOmega, IntWalk.iteOmega, IntWalk.toNatUp]
  repeat (refine And.intro (by omega) ?_)
  try (refine ⟨DrawChk_of (by kernel_rfl), ?_⟩)
  repeat (first | (refine nf1_sound rfl ?_; simp [go_sem, ↓IntWalk.iteOmega, IntWalk.iteOmega, IntWalk.toNatUp, hUU, hn]; (repeat (refine And.intro (by omega) ?_)); try (refine ⟨DrawChk_of (by kernel_rfl), ?_⟩)) | (refine itePos (by omega) ?_; try simp [go_sem, ↓IntWalk.iteOmega, IntWalk.iteOmega, IntWalk.toNatUp, hUU, hn]) | (refine iteNeg (by omega) ?_; try simp [go_sem, ↓IntWalk.iteOmega, IntWalk.iteOmega, IntWalk.toNatUp, hUU, hn]) | (refine ⟨DrawChk_of (by kernel_rfl), ?_⟩))
  refine CallK.fn (awake_fn) [] [] [] (by kernel_rfl) (by simp [go_sem, ↓IntWalk.iteOmega, IntWalk.iteOmega, IntWalk.toNatUp]) (by simp [go_sem, ↓IntWalk.iteOmega, IntWalk.iteOmega, IntWalk.toNatUp]) (by simp [go_sem, ↓IntWalk.iteOmega, IntWalk.iteOmega, IntWalk.toNatUp]) (Or.inl rfl) ?_
  simp [go_sem, ↓IntWalk.iteOmega, IntWalk.iteOmega, IntWalk.toNatUp]
  repeat (refine And.intro (by omega) ?_)
  try (refine ⟨DrawChk_of (by kernel_rfl), ?_⟩)
  repeat (first | (refine nf1_sound rfl ?_; simp [go_sem, ↓IntWalk.iteOmega, IntWalk.iteOmega, IntWalk.toNatUp]; (repeat (refine And.intro (by omega) ?_)); try (refine ⟨DrawChk_of (by kernel_rfl), ?_⟩)) | (refine itePos (by omega) ?_; try simp [go_sem, ↓IntWalk.iteOmega, IntWalk.iteOmega, IntWalk.toNatUp]) | (refine iteNeg (by omega) ?_; try simp [go_sem, ↓IntWalk.iteOmega, IntWalk.iteOmega, IntWalk.toNatUp]) | (refine ⟨DrawChk_of (by kernel_rfl), ?_⟩))
  first | rw [RetQ_ret] | rw [RetQ_normal]
  refine ⟨[], ?_⟩
  simp [go_sem, ↓IntWalk.iteOmega, IntWalk.iteOmega, IntWalk.toNatUp]
theorem mixes_all (x0 x1 x2 x3 : T) (h0 : InSh (.int .u16) x0) (h1 : InSh (.int .u32) x1) (h2 : InSh (.int .u32) x2) (h3 : InSh (.int .u8) x3) :
    FnOk Try.prog 7 [.t x0, .t x1, .t x2, .t x3] [] (.t (.bool true)) [] := by
  obtain ⟨F, rfl, w0⟩ := insh_int h0
  obtain ⟨a, rfl, w1⟩ := insh_int h1
  obtain ⟨b, rfl, w2⟩ := insh_int h2
  obtain ⟨R, rfl, w3⟩ := insh_int h3
  have f0 := wf_u16 w0
  have f1 : 0 ≤ a ∧ a ≤ 4294967295 := by
    simp only [Lit.wf, IntKind.min, IntKind.max, IntKind.signed, IntKind.bits, Bool.and_eq_true, decide_eq_true_eq] at w1
    simp at w1; omega
  have f2 : 0 ≤ b ∧ b ≤ 4294967295 := by
    simp only [Lit.wf, IntKind.min, IntKind.max, IntKind.signed, IntKind.bits, Bool.and_eq_true, decide_eq_true_eq] at w2
    simp at w2; omega
  have f3 := wf_u8 w3
  exact mixes_fn F a b R (by omega) f1 f2 (by omega)
end Go.Proofs.Ytchjindkjbpbnaa
