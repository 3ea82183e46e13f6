/- The law JournalRaw. No condition. -/
import Derived.Test.YtgncmbjkahpdiaaJoAgree
import Derived.Test.YtgncmbjkahpdiaaJoAwake
import Derived.Test.YtgncmbjkahpdiaaWArg
namespace Go.Proofs.Ytgncmbjkahpdiaa
open Go.RowKit Sy
set_option linter.unusedVariables false
set_option linter.unusedSimpArgs false
set_option maxRecDepth 100000 in
set_option maxHeartbeats 8000000 in
theorem raw_law (f : Fl) (b : List Nat) (k : Int) (h8 : Bytes f.b) (p8 : Bytes f.p) (hb : f.b.length ≤ 9223372036854775807 ∧ f.p.length ≤ 9223372036854775807 ∧ b.length ≤ 9223372036854775807)
    (hsum : f.b.length + f.p.length + b.length ≤ 9223372036854775807) :
    FnOk Try.prog 3 [.t (encF f), .t (encUs b), .t (.int k)] [] (.t (.bool true)) [] := by
  by_cases h : f.b.length + f.p.length + b.length ≤ 20000
  · have c := agree_fn f b k ⟨h8, p8, by omega, by omega⟩ (by omega)
    obtain ⟨fb, fp⟩ := f
    dsimp only at h hb hsum
    refine FnOk.intro fact_mixed Try.func3 rfl Try.ntmps3 (by rfl) (by simp) ?_
    repeat (first | (refine nf1_sound rfl ?_; simp [go_sem, ↓IntWalk.iteOmega, IntWalk.iteOmega, IntWalk.toNatUp]; (repeat (refine And.intro (by omega) ?_)); try (refine ⟨DrawChk_of (by kernel_rfl), ?_⟩)) | (refine itePos (by omega) ?_; try simp [go_sem, ↓IntWalk.iteOmega, IntWalk.iteOmega, IntWalk.toNatUp]) | (refine iteNeg (by omega) ?_; try simp [go_sem, ↓IntWalk.iteOmega, IntWalk.iteOmega, IntWalk.toNatUp]))
    refine CallK.fn (c) [] [] [] (by kernel_rfl) (by simp [go_sem, ↓IntWalk.iteOmega, IntWalk.iteOmega, IntWalk.toNatUp]) (by simp [go_sem, ↓IntWalk.iteOmega, IntWalk.iteOmega, IntWalk.toNatUp]) (by simp [go_sem, ↓IntWalk.iteOmega, IntWalk.iteOmega, IntWalk.toNatUp]) (Or.inl rfl) ?_
    simp [go_sem, ↓IntWalk.iteOmega, IntWalk.iteOmega, IntWalk.toNatUp]
    repeat (refine And.intro (by omega) ?_)
    try (refine ⟨DrawChk_of (by kernel_rfl), ?_⟩)
    refine CallK.fn (awake_fn) [] [] [] (by kernel_rfl) (by simp [go_sem, ↓IntWalk.iteOmega, IntWalk.iteOmega, IntWalk.toNatUp]) (by simp [go_sem, ↓IntWalk.iteOmega, IntWalk.iteOmega, IntWalk.toNatUp]) (by simp [go_sem, ↓IntWalk.iteOmega, IntWalk.iteOmega, IntWalk.toNatUp]) (Or.inl rfl) ?_
    simp [go_sem, ↓IntWalk.iteOmega, IntWalk.iteOmega, IntWalk.toNatUp]
    repeat (refine And.intro (by omega) ?_)
    try (refine ⟨DrawChk_of (by kernel_rfl), ?_⟩)
    repeat (first | (refine nf1_sound rfl ?_; simp [go_sem, ↓IntWalk.iteOmega, IntWalk.iteOmega, IntWalk.toNatUp]; (repeat (refine And.intro (by omega) ?_)); try (refine ⟨DrawChk_of (by kernel_rfl), ?_⟩)) | (refine itePos (by omega) ?_; try simp [go_sem, ↓IntWalk.iteOmega, IntWalk.iteOmega, IntWalk.toNatUp]) | (refine iteNeg (by omega) ?_; try simp [go_sem, ↓IntWalk.iteOmega, IntWalk.iteOmega, IntWalk.toNatUp]))
    first | rw [RetQ_ret] | rw [RetQ_normal]
    refine ⟨[], ?_⟩
    simp [go_sem, ↓IntWalk.iteOmega, IntWalk.iteOmega, IntWalk.toNatUp]
  · obtain ⟨fb, fp⟩ := f
    dsimp only at h hb hsum
    refine FnOk.intro fact_mixed Try.func3 rfl Try.ntmps3 (by rfl) (by simp) ?_
    repeat (first | (refine nf1_sound rfl ?_; simp [go_sem, ↓IntWalk.iteOmega, IntWalk.iteOmega, IntWalk.toNatUp]; (repeat (refine And.intro (by omega) ?_)); try (refine ⟨DrawChk_of (by kernel_rfl), ?_⟩)) | (refine itePos (by omega) ?_; try simp [go_sem, ↓IntWalk.iteOmega, IntWalk.iteOmega, IntWalk.toNatUp]) | (refine iteNeg (by omega) ?_; try simp [go_sem, ↓IntWalk.iteOmega, IntWalk.iteOmega, IntWalk.toNatUp]))
    refine CallK.fn (awake_fn) [] [] [] (by kernel_rfl) (by simp [go_sem, ↓IntWalk.iteOmega, IntWalk.iteOmega, IntWalk.toNatUp]) (by simp [go_sem, ↓IntWalk.iteOmega, IntWalk.iteOmega, IntWalk.toNatUp]) (by simp [go_sem, ↓IntWalk.iteOmega, IntWalk.iteOmega, IntWalk.toNatUp]) (Or.inl rfl) ?_
    simp [go_sem, ↓IntWalk.iteOmega, IntWalk.iteOmega, IntWalk.toNatUp]
    repeat (refine And.intro (by omega) ?_)
    try (refine ⟨DrawChk_of (by kernel_rfl), ?_⟩)
    repeat (first | (refine nf1_sound rfl ?_; simp [go_sem, ↓IntWalk.iteOmega, IntWalk.iteOmega, IntWalk.toNatUp]; (repeat (refine And.intro (by omega) ?_)); try (refine ⟨DrawChk_of (by kernel_rfl), ?_⟩)) | (refine itePos (by omega) ?_; try simp [go_sem, ↓IntWalk.iteOmega, IntWalk.iteOmega, IntWalk.toNatUp]) | (refine iteNeg (by omega) ?_; try simp [go_sem, ↓IntWalk.iteOmega, IntWalk.iteOmega, IntWalk.toNatUp]))
    first | rw [RetQ_ret] | rw [RetQ_normal]
    refine ⟨[], ?_⟩
    simp [go_sem, ↓IntWalk.iteOmega, IntWalk.iteOmega, IntWalk.toNatUp]
theorem raw_all (x0 x1 x2 : T) (h0 : InSh (.st [.sl (.int .u8), .sl (.int .u8)]) x0) (h1 : InSh (.sl (.int .u8)) x1) (h2 : InSh (.int .i64) x2) (z0 : SzT x0) (z1 : SzT x1) (z2 : SzT x2) :
    FnOk Try.prog 3 [.t x0, .t x1, .t x2] [] (.t (.bool true)) [] := by
  obtain ⟨xs, rfl, h⟩ := insh_st h0
  obtain ⟨y, ys, rfl, g1, h⟩ := inshs_cons h
  obtain ⟨z, zs, rfl, g2, h⟩ := inshs_cons h
  obtain rfl := inshs_nil h
  obtain ⟨fb, rfl, _, b8⟩ := bytes_in g1
  obtain ⟨fp, rfl, _, p8⟩ := bytes_in g2
  obtain ⟨b, rfl, _, _⟩ := bytes_in h1
  obtain ⟨k, rfl, _⟩ := wint_in h2
  simp only [SzT, SzTs, encUs, List.length_map, reachBytes] at z0 z1
  exact raw_law ⟨fb, fp⟩ b k b8 p8 (by dsimp only; omega) (by dsimp only; omega)
end Go.Proofs.Ytgncmbjkahpdiaa
