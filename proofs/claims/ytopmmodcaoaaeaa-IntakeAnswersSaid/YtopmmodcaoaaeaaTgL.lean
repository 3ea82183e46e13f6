/- The reference's Inside and Encode as contracts. No condition. -/
import Derived.Test.YtopmmodcaoaaeaaTgC
import Derived.Test.YtopmmodcaoaaeaaTgG
import Derived.Test.YtopmmodcaoaaeaaTgJ
import Derived.Test.YtopmmodcaoaaeaaTgK
import Derived.Test.YtopmmodcaoaaeaaWRef
namespace Go.Proofs.Ytopmmodcaoaaeaa
open Go.RowKit Sy
open Go.IntWalk renaming iteOmega → iO, toNatUp → tN
set_option linter.unusedVariables false
set_option linter.unusedSimpArgs false
set_option maxRecDepth 100000 in
set_option maxHeartbeats 8000000 in
theorem rinside_fn (t : Tg) (h : TgOk t) : FnOk Try.prog 31 [.t (encTg t)] [] (.own 1000) [(1000, blkU (insideV t))] := by
  obtain ⟨hn, hi⟩ := nums_ok h
  have h16 := h.ln
  have hfull := putL_len hi
  have hb8 := putL_b8 (numsL t)
  have hs := fun k n (hk : (numsL t)[k]? = some n) => putL_snoc hk
  have hln := fun k => putL_len (ns := (numsL t).take k) fun n hm => hi n (List.mem_of_mem_take hm)
  have hbk := fun k => putL_b8 ((numsL t).take k)
  have hns : (numsL t).map encI = [.int t.st, .int t.ep, .int t.sq, .int t.tm, .int t.kd, .int t.vs.length] ++ t.vs.map encI := by unfold numsL; rw [List.map_append]; rfl
  have hnl : (numsL t).length = 6 + t.vs.length := by unfold numsL; simp; omega
  unfold insideV
  obtain ⟨ns, hnse⟩ : ∃ ns, numsL t = ns := ⟨_, rfl⟩
  rw [hnse] at hn hi hns hnl hfull hb8 ⊢
  simp only [hnse] at hs hln hbk
  have he : putL (ns.take ns.length) = putL ns := by rw [List.take_length]
  have h00 : putL (ns.take 0) = [] := rfl
  obtain ⟨B, hB⟩ : ∃ B : Nat → List Nat, ∀ k, putL (ns.take k) = B k := ⟨_, fun _ => rfl⟩
  simp only [hB] at hs hln hbk he h00
  obtain ⟨F, hF⟩ : ∃ F, putL ns = F := ⟨_, rfl⟩
  rw [hF] at he hb8 hfull ⊢
  have cs := rsealed_fn F (by omega) hb8
  have hsl : (sealV F).length = F.length + 4 := by unfold sealV; simp
  obtain ⟨t1, t2, t3, t4, t5, vs⟩ := t
  dsimp only at h16 hns hnl
  have hnl3 : (ns.length : Int) = (vs.length : Int) + 1 + 1 + 1 + 1 + 1 + 1 := by omega
  clear h
  refine FnOk.intro fact_mixed Try.func31 rfl Try.ntmps31 (by rfl) (by simp) ?_
  repeat (first | (refine nf1_sound rfl ?_; simp [go_sem, ↓iO, iO, tN]; (repeat (refine anI ?_)); try (refine ⟨dcK, ?_⟩)) | ((first | refine itePos (by omega) ?_ | refine iteNeg (by omega) ?_); try simp [go_sem, ↓iO, iO, tN]) | (refine ⟨dcK, ?_⟩))
  refine nf1_sound' _ _ _ ?_; simp only [nf1]
  refine CW.loop (ι := Nat) (fun k => ⟨[(3, .own 503), (22, .t (encIs ns)), (23, .t (.int ns.length)), (24, .t (.int k))], [(503, blkU (B k))]⟩) (fun k => k ≤ ns.length) (fun k => ns.length - k) 0 [(503, none)] (by omega) ?_ ?_
  · simp [go_sem, ↓iO, iO, tN, h00, hns, hnl3]
  intro k hk
  have hlk := hln k
  rw [List.length_take] at hlk
  by_cases hb : k < ns.length
  · obtain ⟨n, hx⟩ := has_get hb
    have hni := hi n (mem_get hx)
    unfold i64 at hni
    have cp := rput_fn (B k) n (by omega) hni.1 hni.2
    have e := hs k n hx
    rw [← e] at cp
    repeat (first | (refine nf1_sound rfl ?_; simp [go_sem, ↓iO, iO, tN, hx]; (repeat (refine anI ?_)); try (refine ⟨dcK, ?_⟩)) | ((first | refine itePos (by omega) ?_ | refine iteNeg (by omega) ?_); try simp [go_sem, ↓iO, iO, tN, hx]) | (refine ⟨dcK, ?_⟩))
    refine CallK.fn (cp) [(1000, 630)] [503] [] (by kernel_rfl) ?_ ?_ ?_ (Or.inr ⟨?_, ?_⟩) ?_ <;> simp [go_sem, ↓iO, iO, tN]
    repeat (refine anI ?_)
    try (refine ⟨dcK, ?_⟩)
    repeat (first | (refine nf1_sound rfl ?_; simp [go_sem, ↓iO, iO, tN]; (repeat (refine anI ?_)); try (refine ⟨dcK, ?_⟩)) | ((first | refine itePos (by omega) ?_ | refine iteNeg (by omega) ?_); try simp [go_sem, ↓iO, iO, tN]) | (refine ⟨dcK, ?_⟩))
    rw [RoundQ_normal]; refine ⟨k + 1, [(503, some 630)], ?_, ?_, ?_⟩
    · omega
    · omega
    simp [go_sem, ↓iO, iO, tN]
  · obtain rfl : k = ns.length := by omega
    repeat (first | (refine nf1_sound rfl ?_; simp [go_sem, ↓iO, iO, tN]; (repeat (refine anI ?_)); try (refine ⟨dcK, ?_⟩)) | ((first | refine itePos (by omega) ?_ | refine iteNeg (by omega) ?_); try simp [go_sem, ↓iO, iO, tN]) | (refine ⟨dcK, ?_⟩))
    refine CallK.fn (cs) [(1000, 633)] [503] [] (by kernel_rfl) ?_ ?_ ?_ (Or.inr ⟨?_, ?_⟩) ?_ <;> simp [go_sem, ↓iO, iO, tN, he]
    repeat (refine anI ?_)
    try (refine ⟨dcK, ?_⟩)
    repeat (first | (refine nf1_sound rfl ?_; simp [go_sem, ↓iO, iO, tN]; (repeat (refine anI ?_)); try (refine ⟨dcK, ?_⟩)) | ((first | refine itePos (by omega) ?_ | refine iteNeg (by omega) ?_); try simp [go_sem, ↓iO, iO, tN]) | (refine ⟨dcK, ?_⟩))
    first | rw [RetQ_ret] | rw [RetQ_normal]
    refine ⟨[(1000, some 633)], ?_⟩
    simp [go_sem, ↓iO, iO, tN]
end Go.Proofs.Ytopmmodcaoaaeaa
