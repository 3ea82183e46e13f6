/- keep.Range as a contract. No condition. -/
import Derived.Test.YtpfolkjimdmdhaaKSrc
namespace Go.Proofs.Ytpfolkjimdmdhaa
open Go.RowKit Sy
set_option linter.unusedVariables false
set_option linter.unusedSimpArgs false
def rangeV (l : List Int) (k : Nat) (lo hi : Int) : Int := lo + nV l k (hi - lo + 1)
theorem rangeV_range {l : List Int} {k : Nat} {lo hi : Int} (h : lo ≤ hi) : lo ≤ rangeV l k lo hi ∧ rangeV l k lo hi ≤ hi := by
  have := nV_range (l := l) (k := k) (n := hi - lo + 1) (by omega)
  unfold rangeV; omega
set_option maxRecDepth 100000 in
theorem range_fn (l : List Int) (k : Nat) (lo hi : Int) (h : SrcOk l k) (h1 : -1000000000000000000 ≤ lo) (h2 : lo ≤ hi) (h3 : hi ≤ 1000000000000000000) :
    FnOk Try.prog 26 [.pt 0 [] 0, .t (.int lo), .t (.int hi)] [(0, srcB l k)] (.t (.int (rangeV l k lo hi))) [(0, srcB l (nextK l k))] := by
  have h4 := nV_range (l := l) (k := k) (n := hi - lo + 1) (by omega)
  refine FnOk.intro fact_mixed Try.func26 rfl Try.ntmps26 (by rfl) (by simp) ?_
  repeat (first | (refine nf1_sound rfl ?_; simp [go_sem, ↓IntWalk.iteOmega, IntWalk.iteOmega, IntWalk.toNatUp]; (repeat (refine And.intro (by omega) ?_)); try (refine ⟨DrawChk_of (by kernel_rfl), ?_⟩)) | (refine itePos (by omega) ?_; try simp [go_sem, ↓IntWalk.iteOmega, IntWalk.iteOmega, IntWalk.toNatUp]) | (refine iteNeg (by omega) ?_; try simp [go_sem, ↓IntWalk.iteOmega, IntWalk.iteOmega, IntWalk.toNatUp]) | (refine ⟨DrawChk_of (by kernel_rfl), ?_⟩))
  refine CallK.fn (n_fn l k (hi - lo + 1) h (by omega)) [(0, 0)] [] [] (by kernel_rfl) (by simp [go_sem, ↓IntWalk.iteOmega, IntWalk.iteOmega, IntWalk.toNatUp]) (by simp [go_sem, ↓IntWalk.iteOmega, IntWalk.iteOmega, IntWalk.toNatUp]) (by simp [go_sem, ↓IntWalk.iteOmega, IntWalk.iteOmega, IntWalk.toNatUp]) (Or.inl rfl) ?_
  simp [go_sem, ↓IntWalk.iteOmega, IntWalk.iteOmega, IntWalk.toNatUp]
  repeat (refine And.intro (by omega) ?_)
  try (refine ⟨DrawChk_of (by kernel_rfl), ?_⟩)
  repeat (first | (refine nf1_sound rfl ?_; simp [go_sem, ↓IntWalk.iteOmega, IntWalk.iteOmega, IntWalk.toNatUp]; (repeat (refine And.intro (by omega) ?_)); try (refine ⟨DrawChk_of (by kernel_rfl), ?_⟩)) | (refine itePos (by omega) ?_; try simp [go_sem, ↓IntWalk.iteOmega, IntWalk.iteOmega, IntWalk.toNatUp]) | (refine iteNeg (by omega) ?_; try simp [go_sem, ↓IntWalk.iteOmega, IntWalk.iteOmega, IntWalk.toNatUp]) | (refine ⟨DrawChk_of (by kernel_rfl), ?_⟩))
  first | rw [RetQ_ret] | rw [RetQ_normal]
  refine ⟨[(0, some 0)], ?_⟩
  simp [go_sem, ↓IntWalk.iteOmega, IntWalk.iteOmega, IntWalk.toNatUp, rangeV]
end Go.Proofs.Ytpfolkjimdmdhaa
