/- keep.Pick as a contract. No condition. -/
import Derived.Test.YtlogekdicmiciaaKIntB
namespace Go.Proofs.Ytlogekdicmiciaa
open Go.RowKit Sy
set_option linter.unusedVariables false
set_option linter.unusedSimpArgs false
theorem n_ex {l : List Int} {k : Nat} (h : SrcOk l k) (n : Int) (h1 : 1 ≤ n) (h2 : n ≤ 9223372036854775807) : ∃ v, (0 ≤ v ∧ v < n) ∧ FnOk Try.prog 21 [.pt 0 [] 0, .t (.int n)] [(0, srcB l k)] (.t (.int v)) [(0, srcB l (nextK l k))] :=
  ⟨_, nV_range h1, n_fn l k n h h2⟩
set_option maxRecDepth 100000 in
theorem pick_ex {l : List Int} {k : Nat} (h : SrcOk l k) (xs : List Int) (h1 : 1 ≤ xs.length) (h2 : xs.length ≤ 1000000) :
    ∃ v, v ∈ xs ∧ FnOk Try.prog 14 [.pt 0 [] 0, .t (encIs xs)] [(0, srcB l k)] (.t (.int v)) [(0, srcB l (nextK l k))] := by
  obtain ⟨n, hn, hc⟩ := n_ex h xs.length (by omega) (by omega)
  obtain ⟨m, rfl⟩ : ∃ m : Nat, n = (m : Int) := ⟨n.toNat, by omega⟩
  obtain ⟨v, hv⟩ := has_get (show m < xs.length by omega)
  refine ⟨v, mem_get hv, ?_⟩
  refine FnOk.intro fact_mixed Try.func14 rfl Try.ntmps14 (by rfl) (by simp) ?_
  repeat (first | (refine nf1_sound rfl ?_; simp [go_sem, ↓IntWalk.iteOmega, IntWalk.iteOmega, IntWalk.toNatUp]; (repeat (refine And.intro (by omega) ?_)); try (refine ⟨DrawChk_of (by kernel_rfl), ?_⟩)) | (refine itePos (by omega) ?_; try simp [go_sem, ↓IntWalk.iteOmega, IntWalk.iteOmega, IntWalk.toNatUp]) | (refine iteNeg (by omega) ?_; try simp [go_sem, ↓IntWalk.iteOmega, IntWalk.iteOmega, IntWalk.toNatUp]))
  refine CallK.fn (hc) [(0, 0)] [] [] (by kernel_rfl) (by simp [go_sem, ↓IntWalk.iteOmega, IntWalk.iteOmega, IntWalk.toNatUp, hv]) (by simp [go_sem, ↓IntWalk.iteOmega, IntWalk.iteOmega, IntWalk.toNatUp, hv]) (by simp [go_sem, ↓IntWalk.iteOmega, IntWalk.iteOmega, IntWalk.toNatUp, hv]) (Or.inl rfl) ?_
  simp [go_sem, ↓IntWalk.iteOmega, IntWalk.iteOmega, IntWalk.toNatUp, hv]
  repeat (refine And.intro (by omega) ?_)
  try (refine ⟨DrawChk_of (by kernel_rfl), ?_⟩)
  repeat (first | (refine nf1_sound rfl ?_; simp [go_sem, ↓IntWalk.iteOmega, IntWalk.iteOmega, IntWalk.toNatUp, hv]; (repeat (refine And.intro (by omega) ?_)); try (refine ⟨DrawChk_of (by kernel_rfl), ?_⟩)) | (refine itePos (by omega) ?_; try simp [go_sem, ↓IntWalk.iteOmega, IntWalk.iteOmega, IntWalk.toNatUp, hv]) | (refine iteNeg (by omega) ?_; try simp [go_sem, ↓IntWalk.iteOmega, IntWalk.iteOmega, IntWalk.toNatUp, hv]))
  first | rw [RetQ_ret] | rw [RetQ_normal]
  refine ⟨[(0, some 0)], ?_⟩
  simp [go_sem, ↓IntWalk.iteOmega, IntWalk.iteOmega, IntWalk.toNatUp]
end Go.Proofs.Ytlogekdicmiciaa
