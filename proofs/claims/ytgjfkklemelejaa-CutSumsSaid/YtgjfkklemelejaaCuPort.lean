/- cut.Portions as a contract. No condition. -/
import Derived.Test.YtgjfkklemelejaaCuSlops
namespace Go.Proofs.Ytgjfkklemelejaa
open Go.RowKit Sy
set_option linter.unusedVariables false
set_option linter.unusedSimpArgs false
@[go_sem] def encPo (x : Po) : T := .agg [.int x.1, .int x.2.1, .bool x.2.2]
@[go_sem] def encPos (l : List Po) : T := .sl 3 (l.map encPo)
@[go_sem] def blkPo (l : List Po) : Blk := .list 36 3 (l.map encPo)
@[go_sem] theorem flat_encPo : ∀ l : List Po, flatTs (l.map encPo)
  | [] => trivial
  | x :: r => ⟨⟨trivial, trivial, trivial, trivial⟩, flat_encPo r⟩
theorem widths_encPo : ∀ l : List Po, T.widths (l.map encPo) = l.length * 3
  | [] => rfl
  | x :: r => by simp only [List.map_cons, T.widths, widths_encPo r, encPo, T.width, List.length_cons]; omega
set_option maxRecDepth 100000 in
theorem add_fn (l : List Po) (hl : l.length ≤ 1000000) (b v : Int) (s : Bool) : FnOk Try.prog 36 [.t (.int b), .t (.int v), .t (.bool s), .pt 0 [] 0] [(0, .box 30 (.own 1)), (1, blkPo l)]
    (.tup []) [(0, .box 30 (.own 1000)), (1000, blkPo (l ++ pos b v s))] := by
  by_cases hv : 0 < v
  · have e : pos b v s = [(b, v, s)] := by unfold pos; rw [if_pos hv]
    rw [e]
    refine FnOk.intro fact_mixed Try.func36 rfl Try.ntmps36 (by rfl) (by simp) ?_
    repeat (first | (refine nf1_sound rfl ?_; simp [go_sem, ↓IntWalk.iteOmega, IntWalk.iteOmega, IntWalk.toNatUp]; (repeat (refine And.intro (by omega) ?_)); try (refine ⟨DrawChk_of (by kernel_rfl), ?_⟩)) | (refine itePos (by omega) ?_; try simp [go_sem, ↓IntWalk.iteOmega, IntWalk.iteOmega, IntWalk.toNatUp]) | (refine iteNeg (by omega) ?_; try simp [go_sem, ↓IntWalk.iteOmega, IntWalk.iteOmega, IntWalk.toNatUp]) | (refine ⟨DrawChk_of (by kernel_rfl), ?_⟩))
    first | rw [RetQ_ret] | rw [RetQ_normal]
    refine ⟨[(0, some 0), (1000, some 115)], ?_⟩
    simp [go_sem, ↓IntWalk.iteOmega, IntWalk.iteOmega, IntWalk.toNatUp]
  · have e : pos b v s = [] := by unfold pos; rw [if_neg hv]
    rw [e]
    refine FnOk.intro fact_mixed Try.func36 rfl Try.ntmps36 (by rfl) (by simp) ?_
    repeat (first | (refine nf1_sound rfl ?_; simp [go_sem, ↓IntWalk.iteOmega, IntWalk.iteOmega, IntWalk.toNatUp]; (repeat (refine And.intro (by omega) ?_)); try (refine ⟨DrawChk_of (by kernel_rfl), ?_⟩)) | (refine itePos (by omega) ?_; try simp [go_sem, ↓IntWalk.iteOmega, IntWalk.iteOmega, IntWalk.toNatUp]) | (refine iteNeg (by omega) ?_; try simp [go_sem, ↓IntWalk.iteOmega, IntWalk.iteOmega, IntWalk.toNatUp]) | (refine ⟨DrawChk_of (by kernel_rfl), ?_⟩))
    first | rw [RetQ_ret] | rw [RetQ_normal]
    refine ⟨[(0, some 0), (1000, some 1)], ?_⟩
    simp [go_sem, ↓IntWalk.iteOmega, IntWalk.iteOmega, IntWalk.toNatUp]
set_option maxRecDepth 100000 in
theorem radd_fn (l : List Po) (hl : l.length ≤ 1000000) (b v : Int) (s : Bool) (h0 : 0 ≤ v) : FnOk Try.prog 54 [.own 0, .t (.int b), .t (.int v), .t (.bool s)] [(0, blkPo l)] (.own 1000) [(1000, blkPo (l ++ pos b v s))] := by
  by_cases hv : v = 0
  · have e : pos b v s = [] := by unfold pos; rw [if_neg (by omega)]
    rw [e]
    refine FnOk.intro fact_mixed Try.func54 rfl Try.ntmps54 (by rfl) (by simp) ?_
    repeat (first | (refine nf1_sound rfl ?_; simp [go_sem, ↓IntWalk.iteOmega, IntWalk.iteOmega, IntWalk.toNatUp, hv]; (repeat (refine And.intro (by omega) ?_)); try (refine ⟨DrawChk_of (by kernel_rfl), ?_⟩)) | (refine itePos (by omega) ?_; try simp [go_sem, ↓IntWalk.iteOmega, IntWalk.iteOmega, IntWalk.toNatUp, hv]) | (refine iteNeg (by omega) ?_; try simp [go_sem, ↓IntWalk.iteOmega, IntWalk.iteOmega, IntWalk.toNatUp, hv]) | (refine ⟨DrawChk_of (by kernel_rfl), ?_⟩))
    first | rw [RetQ_ret] | rw [RetQ_normal]
    refine ⟨[(1000, some 0)], ?_⟩
    simp [go_sem, ↓IntWalk.iteOmega, IntWalk.iteOmega, IntWalk.toNatUp]
  · have e : pos b v s = [(b, v, s)] := by unfold pos; rw [if_pos (by omega)]
    rw [e]
    refine FnOk.intro fact_mixed Try.func54 rfl Try.ntmps54 (by rfl) (by simp) ?_
    repeat (first | (refine nf1_sound rfl ?_; simp [go_sem, ↓IntWalk.iteOmega, IntWalk.iteOmega, IntWalk.toNatUp, hv]; (repeat (refine And.intro (by omega) ?_)); try (refine ⟨DrawChk_of (by kernel_rfl), ?_⟩)) | (refine itePos (by omega) ?_; try simp [go_sem, ↓IntWalk.iteOmega, IntWalk.iteOmega, IntWalk.toNatUp, hv]) | (refine iteNeg (by omega) ?_; try simp [go_sem, ↓IntWalk.iteOmega, IntWalk.iteOmega, IntWalk.toNatUp, hv]) | (refine ⟨DrawChk_of (by kernel_rfl), ?_⟩))
    first | rw [RetQ_ret] | rw [RetQ_normal]
    refine ⟨[(1000, some 118)], ?_⟩
    simp [go_sem, ↓IntWalk.iteOmega, IntWalk.iteOmega, IntWalk.toNatUp]
end Go.Proofs.Ytgjfkklemelejaa
