/- The example of the chapter. No condition. -/
import Derived.Test.YtakfgmkdknjfdaaTgQ
import Derived.Test.YtakfgmkdknjfdaaTgF
namespace Go.Proofs.Ytakfgmkdknjfdaa
open Go.RowKit Sy
set_option linter.unusedVariables false
set_option linter.unusedSimpArgs false
def tgE : Tg := ⟨1, 0, 2, 3, 4, [-1]⟩
theorem tgE_ok : TgOk tgE := ⟨by decide, by decide, by decide, by decide, by decide, by decide, by simp [tgE, okN]⟩
theorem tgE_put : putL (numsL tgE) = [2, 0, 4, 6, 8, 2, 1] := by simp [putL, numsL, tgE, putZ, Wire.fold, Wire.put_small]
theorem tgE_frame : ∃ q : List Nat, Wire.stuff (insideV tgE) = 126 :: 2 :: 0 :: 4 :: 6 :: 8 :: 2 :: 1 :: q ∧ 5 ≤ q.length := by
  unfold insideV sealV
  rw [tgE_put]
  obtain ⟨r, hr⟩ : ∃ r, [Crc.sum [2, 0, 4, 6, 8, 2, 1] % 256, Crc.sum [2, 0, 4, 6, 8, 2, 1] / 256 % 256, Crc.sum [2, 0, 4, 6, 8, 2, 1] / 65536 % 256, Crc.sum [2, 0, 4, 6, 8, 2, 1] / 16777216 % 256] = r := ⟨_, rfl⟩
  have hl : r.length = 4 := by rw [← hr]; rfl
  rw [hr]
  have hb := (Wire.body_length r).1
  refine ⟨Wire.body r ++ [124], ?_, by simp; omega⟩
  simp [Wire.stuff, Wire.body, Wire.esc, Wire.spec]
set_option maxRecDepth 100000 in
set_option maxHeartbeats 4000000 in
theorem awake_fn : FnOk Try.prog 8 [] [] (.t (.bool true)) [] := by
  have ce := encode_fn tgE (by decide) (Wire.stuff (insideV tgE)) 0 (by unfold encV; rw [if_pos tgE_ok])
  obtain ⟨hl, hd⟩ := dec_enc tgE_ok
  have h8 := Wire.stuff_lt (sealV_b8 (putL_b8 (numsL tgE)))
  have cd := decode_fn (Wire.stuff (insideV tgE)) (by omega) h8 tgE 0 hd
  have cs := rsame_fn tgE (by decide)
  obtain ⟨q, hq, hq5⟩ := tgE_frame
  rw [hq] at ce cd
  have hst : (str [2, 0, 4, 6, 8, 2, 1]).toList = [2, 0, 4, 6, 8, 2, 1] := by decide +kernel
  refine FnOk.intro fact_mixed Try.func8 rfl Try.ntmps8 (by rfl) (by simp) ?_
  repeat (first | (refine nf1_sound rfl ?_; simp [go_sem, ↓IntWalk.iteOmega, IntWalk.iteOmega, IntWalk.toNatUp]; (repeat (refine And.intro (by omega) ?_)); try (refine ⟨DrawChk_of (by kernel_rfl), ?_⟩)) | (refine itePos (by omega) ?_; try simp [go_sem, ↓IntWalk.iteOmega, IntWalk.iteOmega, IntWalk.toNatUp]) | (refine iteNeg (by omega) ?_; try simp [go_sem, ↓IntWalk.iteOmega, IntWalk.iteOmega, IntWalk.toNatUp]) | (refine ⟨DrawChk_of (by kernel_rfl), ?_⟩))
  refine CallK.fn (ce) [(1000, 610)] [106] [] (by kernel_rfl) (by simp [go_sem, ↓IntWalk.iteOmega, IntWalk.iteOmega, IntWalk.toNatUp, tgE]) (by simp [go_sem, ↓IntWalk.iteOmega, IntWalk.iteOmega, IntWalk.toNatUp, tgE]) (by simp [go_sem, ↓IntWalk.iteOmega, IntWalk.iteOmega, IntWalk.toNatUp, tgE]) (Or.inr ⟨by simp [go_sem, ↓IntWalk.iteOmega, IntWalk.iteOmega, IntWalk.toNatUp, tgE], by simp [go_sem, ↓IntWalk.iteOmega, IntWalk.iteOmega, IntWalk.toNatUp, tgE]⟩) ?_
  simp [go_sem, ↓IntWalk.iteOmega, IntWalk.iteOmega, IntWalk.toNatUp, tgE]
  repeat (refine And.intro (by omega) ?_)
  try (refine ⟨DrawChk_of (by kernel_rfl), ?_⟩)
  repeat (first | (refine nf1_sound rfl ?_; simp [go_sem, ↓IntWalk.iteOmega, IntWalk.iteOmega, IntWalk.toNatUp]; (repeat (refine And.intro (by omega) ?_)); try (refine ⟨DrawChk_of (by kernel_rfl), ?_⟩)) | (refine itePos (by omega) ?_; try simp [go_sem, ↓IntWalk.iteOmega, IntWalk.iteOmega, IntWalk.toNatUp]) | (refine iteNeg (by omega) ?_; try simp [go_sem, ↓IntWalk.iteOmega, IntWalk.iteOmega, IntWalk.toNatUp]) | (refine ⟨DrawChk_of (by kernel_rfl), ?_⟩))
  refine CallK.fn (cd) [(1000, 615)] [610] [] (by kernel_rfl) (by simp [go_sem, ↓IntWalk.iteOmega, IntWalk.iteOmega, IntWalk.toNatUp, tgE]) (by simp [go_sem, ↓IntWalk.iteOmega, IntWalk.iteOmega, IntWalk.toNatUp, tgE]) (by simp [go_sem, ↓IntWalk.iteOmega, IntWalk.iteOmega, IntWalk.toNatUp, tgE]) (Or.inr ⟨by simp [go_sem, ↓IntWalk.iteOmega, IntWalk.iteOmega, IntWalk.toNatUp, tgE], by simp [go_sem, ↓IntWalk.iteOmega, IntWalk.iteOmega, IntWalk.toNatUp, tgE]⟩) ?_
  simp [go_sem, ↓IntWalk.iteOmega, IntWalk.iteOmega, IntWalk.toNatUp, tgE]
  repeat (refine And.intro (by omega) ?_)
  try (refine ⟨DrawChk_of (by kernel_rfl), ?_⟩)
  repeat (first | (refine nf1_sound rfl ?_; simp [go_sem, ↓IntWalk.iteOmega, IntWalk.iteOmega, IntWalk.toNatUp, hst]; (repeat (refine And.intro (by omega) ?_)); try (refine ⟨DrawChk_of (by kernel_rfl), ?_⟩)) | (refine itePos (by omega) ?_; try simp [go_sem, ↓IntWalk.iteOmega, IntWalk.iteOmega, IntWalk.toNatUp, hst]) | (refine iteNeg (by omega) ?_; try simp [go_sem, ↓IntWalk.iteOmega, IntWalk.iteOmega, IntWalk.toNatUp, hst]) | (refine ⟨DrawChk_of (by kernel_rfl), ?_⟩))
  refine CallK.fn (cs) [] [106, 615] [] (by kernel_rfl) (by simp [go_sem, ↓IntWalk.iteOmega, IntWalk.iteOmega, IntWalk.toNatUp, tgE]) (by simp [go_sem, ↓IntWalk.iteOmega, IntWalk.iteOmega, IntWalk.toNatUp, tgE]) (by simp [go_sem, ↓IntWalk.iteOmega, IntWalk.iteOmega, IntWalk.toNatUp, tgE]) (Or.inr ⟨by simp [go_sem, ↓IntWalk.iteOmega, IntWalk.iteOmega, IntWalk.toNatUp, tgE], by simp [go_sem, ↓IntWalk.iteOmega, IntWalk.iteOmega, IntWalk.toNatUp, tgE]⟩) ?_
  simp [go_sem, ↓IntWalk.iteOmega, IntWalk.iteOmega, IntWalk.toNatUp, tgE]
  repeat (refine And.intro (by omega) ?_)
  try (refine ⟨DrawChk_of (by kernel_rfl), ?_⟩)
  repeat (first | (refine nf1_sound rfl ?_; simp [go_sem, ↓IntWalk.iteOmega, IntWalk.iteOmega, IntWalk.toNatUp]; (repeat (refine And.intro (by omega) ?_)); try (refine ⟨DrawChk_of (by kernel_rfl), ?_⟩)) | (refine itePos (by omega) ?_; try simp [go_sem, ↓IntWalk.iteOmega, IntWalk.iteOmega, IntWalk.toNatUp]) | (refine iteNeg (by omega) ?_; try simp [go_sem, ↓IntWalk.iteOmega, IntWalk.iteOmega, IntWalk.toNatUp]) | (refine ⟨DrawChk_of (by kernel_rfl), ?_⟩))
  first | rw [RetQ_ret] | rw [RetQ_normal]
  refine ⟨[], ?_⟩
  simp [go_sem, ↓IntWalk.iteOmega, IntWalk.iteOmega, IntWalk.toNatUp]
end Go.Proofs.Ytakfgmkdknjfdaa
