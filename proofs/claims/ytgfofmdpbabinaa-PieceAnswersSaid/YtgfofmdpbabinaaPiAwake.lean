/- The sanity check of chapter 14's laws. No condition. -/
import Derived.Test.YtgfofmdpbabinaaPiPush
import Derived.Test.YtgfofmdpbabinaaPiSame
namespace Go.Proofs.Ytgfofmdpbabinaa
open Go.RowKit Sy
set_option linter.unusedVariables false
set_option linter.unusedSimpArgs false
theorem vd_ex : Pc.valid [(1, 60), (2, 40)] = true := Pc.valid_t (Pc.vd_of_canon (by simp [Pc.Canon]) (by simp) (by simp) (by simp [Pc.vol]))
theorem vd_ex2 : Pc.valid [(3, 50)] = true := Pc.valid_t (Pc.vd_of_canon (by simp [Pc.Canon]) (by simp) (by simp) (by simp [Pc.vol]))
theorem ex1 : Pc.push [(1, 60), (2, 40)] [(3, 50)] false = ([(3, 50), (1, 50)], [(1, 10), (2, 40)], 0) := by
  have h : Pc.shift [(1, 60), (2, 40)] [(3, 50)] false = ([(3, 50), (1, 50)], [(1, 10), (2, 40)]) := by decide
  rw [push_ok vd_ex vd_ex2 (by rw [h]; decide), h]
theorem ex2 : Pc.push [(1, 60), (2, 40)] [(3, 50)] true = ([(1, 10), (2, 40), (3, 50)], [(1, 50)], 0) := by
  have h : Pc.shift [(1, 60), (2, 40)] [(3, 50)] true = ([(1, 10), (2, 40), (3, 50)], [(1, 50)]) := by decide
  rw [push_ok vd_ex vd_ex2 (by rw [h]; decide), h]
theorem push_fn' (f g : List (Int × Int)) (back : Bool) (hf : f.length ≤ 1000000) (hg : g.length ≤ 1000000) (a b : List (Int × Int)) (e : Int) (h : Pc.push f g back = (a, b, e)) : FnOk Try.prog 13 [.t (encPs f), .t (encPs g), .t (.bool back)] []
    (.tup [.own 1000, .own 1001, .t (.int e)]) [(1000, blkP a), (1001, blkP b)] := by
  have := push_fn f g back hf hg
  rw [h] at this
  exact this
theorem same_fn' (a b : List (Int × Int)) (ha : a.length ≤ 1000000) (c : Bool) (h : decide (a = b) = c) : FnOk Try.prog 14 [.t (encPs a), .t (encPs b)] [] (.t (.bool c)) [] := h ▸ same_fn a b ha
set_option maxRecDepth 100000 in
set_option maxHeartbeats 8000000 in
theorem awake_fn : FnOk Try.prog 15 [] [] (.t (.bool true)) [] := by
  refine FnOk.intro fact_mixed Try.func15 rfl Try.ntmps15 (by rfl) (by simp) ?_
  repeat (first | (refine nf1_sound rfl ?_; simp [go_sem, ↓IntWalk.iteOmega, IntWalk.iteOmega, IntWalk.toNatUp]; (repeat (refine And.intro (by omega) ?_)); try (refine ⟨DrawChk_of (by kernel_rfl), ?_⟩)) | (refine itePos (by omega) ?_; try simp [go_sem, ↓IntWalk.iteOmega, IntWalk.iteOmega, IntWalk.toNatUp]) | (refine iteNeg (by omega) ?_; try simp [go_sem, ↓IntWalk.iteOmega, IntWalk.iteOmega, IntWalk.toNatUp]) | (refine ⟨DrawChk_of (by kernel_rfl), ?_⟩))
  refine CallK.fn (push_fn' [(1, 60), (2, 40)] [(3, 50)] false (by simp) (by simp) _ _ _ ex1) [(1000, 600), (1001, 601)] [110, 114] [] (by kernel_rfl) (by simp [go_sem, ↓IntWalk.iteOmega, IntWalk.iteOmega, IntWalk.toNatUp]) (by simp [go_sem, ↓IntWalk.iteOmega, IntWalk.iteOmega, IntWalk.toNatUp]) (by simp [go_sem, ↓IntWalk.iteOmega, IntWalk.iteOmega, IntWalk.toNatUp]) (Or.inr ⟨by simp [go_sem, ↓IntWalk.iteOmega, IntWalk.iteOmega, IntWalk.toNatUp], by simp [go_sem, ↓IntWalk.iteOmega, IntWalk.iteOmega, IntWalk.toNatUp]⟩) ?_
  simp [go_sem, ↓IntWalk.iteOmega, IntWalk.iteOmega, IntWalk.toNatUp]
  repeat (refine And.intro (by omega) ?_)
  try (refine ⟨DrawChk_of (by kernel_rfl), ?_⟩)
  repeat (first | (refine nf1_sound rfl ?_; simp [go_sem, ↓IntWalk.iteOmega, IntWalk.iteOmega, IntWalk.toNatUp]; (repeat (refine And.intro (by omega) ?_)); try (refine ⟨DrawChk_of (by kernel_rfl), ?_⟩)) | (refine itePos (by omega) ?_; try simp [go_sem, ↓IntWalk.iteOmega, IntWalk.iteOmega, IntWalk.toNatUp]) | (refine iteNeg (by omega) ?_; try simp [go_sem, ↓IntWalk.iteOmega, IntWalk.iteOmega, IntWalk.toNatUp]) | (refine ⟨DrawChk_of (by kernel_rfl), ?_⟩))
  refine CallK.fn (push_fn' [(1, 60), (2, 40)] [(3, 50)] true (by simp) (by simp) _ _ _ ex2) [(1000, 602), (1001, 603)] [110, 122] [] (by kernel_rfl) (by simp [go_sem, ↓IntWalk.iteOmega, IntWalk.iteOmega, IntWalk.toNatUp]) (by simp [go_sem, ↓IntWalk.iteOmega, IntWalk.iteOmega, IntWalk.toNatUp]) (by simp [go_sem, ↓IntWalk.iteOmega, IntWalk.iteOmega, IntWalk.toNatUp]) (Or.inr ⟨by simp [go_sem, ↓IntWalk.iteOmega, IntWalk.iteOmega, IntWalk.toNatUp], by simp [go_sem, ↓IntWalk.iteOmega, IntWalk.iteOmega, IntWalk.toNatUp]⟩) ?_
  simp [go_sem, ↓IntWalk.iteOmega, IntWalk.iteOmega, IntWalk.toNatUp]
  repeat (refine And.intro (by omega) ?_)
  try (refine ⟨DrawChk_of (by kernel_rfl), ?_⟩)
  repeat (first | (refine nf1_sound rfl ?_; simp [go_sem, ↓IntWalk.iteOmega, IntWalk.iteOmega, IntWalk.toNatUp]; (repeat (refine And.intro (by omega) ?_)); try (refine ⟨DrawChk_of (by kernel_rfl), ?_⟩)) | (refine itePos (by omega) ?_; try simp [go_sem, ↓IntWalk.iteOmega, IntWalk.iteOmega, IntWalk.toNatUp]) | (refine iteNeg (by omega) ?_; try simp [go_sem, ↓IntWalk.iteOmega, IntWalk.iteOmega, IntWalk.toNatUp]) | (refine ⟨DrawChk_of (by kernel_rfl), ?_⟩))
  refine CallK.fn (same_fn' [(3, 50), (1, 50)] [(3, 50), (1, 50)] (by simp) true (by decide)) [] [600, 133] [] (by kernel_rfl) (by simp [go_sem, ↓IntWalk.iteOmega, IntWalk.iteOmega, IntWalk.toNatUp]) (by simp [go_sem, ↓IntWalk.iteOmega, IntWalk.iteOmega, IntWalk.toNatUp]) (by simp [go_sem, ↓IntWalk.iteOmega, IntWalk.iteOmega, IntWalk.toNatUp]) (Or.inr ⟨by simp [go_sem, ↓IntWalk.iteOmega, IntWalk.iteOmega, IntWalk.toNatUp], by simp [go_sem, ↓IntWalk.iteOmega, IntWalk.iteOmega, IntWalk.toNatUp]⟩) ?_
  simp [go_sem, ↓IntWalk.iteOmega, IntWalk.iteOmega, IntWalk.toNatUp]
  repeat (refine And.intro (by omega) ?_)
  try (refine ⟨DrawChk_of (by kernel_rfl), ?_⟩)
  refine CallK.fn (same_fn' [(1, 10), (2, 40)] [(1, 10), (2, 40)] (by simp) true (by decide)) [] [601, 140] [] (by kernel_rfl) (by simp [go_sem, ↓IntWalk.iteOmega, IntWalk.iteOmega, IntWalk.toNatUp]) (by simp [go_sem, ↓IntWalk.iteOmega, IntWalk.iteOmega, IntWalk.toNatUp]) (by simp [go_sem, ↓IntWalk.iteOmega, IntWalk.iteOmega, IntWalk.toNatUp]) (Or.inr ⟨by simp [go_sem, ↓IntWalk.iteOmega, IntWalk.iteOmega, IntWalk.toNatUp], by simp [go_sem, ↓IntWalk.iteOmega, IntWalk.iteOmega, IntWalk.toNatUp]⟩) ?_
  simp [go_sem, ↓IntWalk.iteOmega, IntWalk.iteOmega, IntWalk.toNatUp]
  repeat (refine And.intro (by omega) ?_)
  try (refine ⟨DrawChk_of (by kernel_rfl), ?_⟩)
  refine CallK.fn (same_fn' [(1, 10), (2, 40), (3, 50)] [(1, 10), (2, 40), (3, 50)] (by simp) true (by decide)) [] [602, 152] [] (by kernel_rfl) (by simp [go_sem, ↓IntWalk.iteOmega, IntWalk.iteOmega, IntWalk.toNatUp]) (by simp [go_sem, ↓IntWalk.iteOmega, IntWalk.iteOmega, IntWalk.toNatUp]) (by simp [go_sem, ↓IntWalk.iteOmega, IntWalk.iteOmega, IntWalk.toNatUp]) (Or.inr ⟨by simp [go_sem, ↓IntWalk.iteOmega, IntWalk.iteOmega, IntWalk.toNatUp], by simp [go_sem, ↓IntWalk.iteOmega, IntWalk.iteOmega, IntWalk.toNatUp]⟩) ?_
  simp [go_sem, ↓IntWalk.iteOmega, IntWalk.iteOmega, IntWalk.toNatUp]
  repeat (refine And.intro (by omega) ?_)
  try (refine ⟨DrawChk_of (by kernel_rfl), ?_⟩)
  refine CallK.fn (same_fn' [(1, 50)] [(1, 50)] (by simp) true (by decide)) [] [603, 158] [] (by kernel_rfl) (by simp [go_sem, ↓IntWalk.iteOmega, IntWalk.iteOmega, IntWalk.toNatUp]) (by simp [go_sem, ↓IntWalk.iteOmega, IntWalk.iteOmega, IntWalk.toNatUp]) (by simp [go_sem, ↓IntWalk.iteOmega, IntWalk.iteOmega, IntWalk.toNatUp]) (Or.inr ⟨by simp [go_sem, ↓IntWalk.iteOmega, IntWalk.iteOmega, IntWalk.toNatUp], by simp [go_sem, ↓IntWalk.iteOmega, IntWalk.iteOmega, IntWalk.toNatUp]⟩) ?_
  simp [go_sem, ↓IntWalk.iteOmega, IntWalk.iteOmega, IntWalk.toNatUp]
  repeat (refine And.intro (by omega) ?_)
  try (refine ⟨DrawChk_of (by kernel_rfl), ?_⟩)
  repeat (first | (refine nf1_sound rfl ?_; simp [go_sem, ↓IntWalk.iteOmega, IntWalk.iteOmega, IntWalk.toNatUp]; (repeat (refine And.intro (by omega) ?_)); try (refine ⟨DrawChk_of (by kernel_rfl), ?_⟩)) | (refine itePos (by omega) ?_; try simp [go_sem, ↓IntWalk.iteOmega, IntWalk.iteOmega, IntWalk.toNatUp]) | (refine iteNeg (by omega) ?_; try simp [go_sem, ↓IntWalk.iteOmega, IntWalk.iteOmega, IntWalk.toNatUp]) | (refine ⟨DrawChk_of (by kernel_rfl), ?_⟩))
  first | rw [RetQ_ret] | rw [RetQ_normal]
  refine ⟨[], ?_⟩
  simp [go_sem, ↓IntWalk.iteOmega, IntWalk.iteOmega, IntWalk.toNatUp]
end Go.Proofs.Ytgfofmdpbabinaa
