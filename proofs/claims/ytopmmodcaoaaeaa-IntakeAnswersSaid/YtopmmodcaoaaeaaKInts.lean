/- keep.Ints as a contract. No condition. -/
import Derived.Test.YtopmmodcaoaaeaaKIntB
namespace Go.Proofs.Ytopmmodcaoaaeaa
open Go.RowKit Sy
open Go.IntWalk renaming iteOmega → iO, toNatUp → tN
set_option linter.unusedVariables false
set_option linter.unusedSimpArgs false
set_option maxRecDepth 100000 in
set_option maxHeartbeats 4000000 in
theorem ints_fn (a b : List Int) (ha : a.length ≤ 100000000) (r : Bool) (hr : decide (a = b) = r) : FnOk Try.prog 61 [.t (encIs a), .t (encIs b)] [] (.t (.bool r)) [] := by
  subst hr
  refine FnOk.intro fact_mixed Try.func61 rfl Try.ntmps61 (by rfl) (by simp) ?_
  by_cases hl : a.length = b.length
  · repeat (first | (refine nf1_sound rfl ?_; simp [go_sem, ↓iO, iO, tN, hl]; (repeat (refine anI ?_)); try (refine ⟨dcK, ?_⟩)) | ((first | refine itePos (by omega) ?_ | refine iteNeg (by omega) ?_); try simp [go_sem, ↓iO, iO, tN, hl]) | (refine ⟨dcK, ?_⟩))
    refine nf1_sound' _ _ _ ?_; simp only [nf1]
    refine CW.loop (ι := Nat) (fun k => ⟨[(0, .t (encIs a)), (1, .t (encIs b)), (12, .t (.int b.length)), (13, .t (.int k))], []⟩) (fun k => k ≤ b.length ∧ a.take k = b.take k) (fun k => b.length - k) 0 [] ⟨by omega, by simp⟩ ?_ ?_
    · simp [go_sem, ↓iO, iO, tN]
    rintro k ⟨hk, ht⟩
    by_cases hb : k < b.length
    · obtain ⟨p, hp⟩ := has_get (show k < a.length by omega)
      obtain ⟨q, hq⟩ := has_get hb
      by_cases e1 : p = q
      · subst e1
        repeat (first | (refine nf1_sound rfl ?_; simp [go_sem, ↓iO, iO, tN, hp, hq]; (repeat (refine anI ?_)); try (refine ⟨dcK, ?_⟩)) | ((first | refine itePos (by omega) ?_ | refine iteNeg (by omega) ?_); try simp [go_sem, ↓iO, iO, tN, hp, hq]) | (refine ⟨dcK, ?_⟩))
        rw [RoundQ_normal]; refine ⟨k + 1, [], ?_, ?_, ?_⟩
        · exact ⟨by omega, takeI_step hp hq ht⟩
        · omega
        simp [go_sem, ↓iO, iO, tN]
      · have hn := takeI_ne hp hq e1
        repeat (first | (refine nf1_sound rfl ?_; simp [go_sem, ↓iO, iO, tN, hp, hq, e1]; (repeat (refine anI ?_)); try (refine ⟨dcK, ?_⟩)) | ((first | refine itePos (by omega) ?_ | refine iteNeg (by omega) ?_); try simp [go_sem, ↓iO, iO, tN, hp, hq, e1]) | (refine ⟨dcK, ?_⟩))
        first | rw [RetQ_ret] | rw [RetQ_normal]
        refine ⟨[], ?_⟩
        simp [go_sem, ↓iO, iO, tN, hn]
    · obtain rfl : k = b.length := by omega
      have hab : a = b := by rw [List.take_length] at ht; rw [← ht, ← hl, List.take_length]
      repeat (first | (refine nf1_sound rfl ?_; simp [go_sem, ↓iO, iO, tN]; (repeat (refine anI ?_)); try (refine ⟨dcK, ?_⟩)) | ((first | refine itePos (by omega) ?_ | refine iteNeg (by omega) ?_); try simp [go_sem, ↓iO, iO, tN]) | (refine ⟨dcK, ?_⟩))
      first | rw [RetQ_ret] | rw [RetQ_normal]
      refine ⟨[], ?_⟩
      simp [go_sem, ↓iO, iO, tN, hab]
  · have hn : a ≠ b := fun h => hl (by rw [h])
    repeat (first | (refine nf1_sound rfl ?_; simp [go_sem, ↓iO, iO, tN, hl]; (repeat (refine anI ?_)); try (refine ⟨dcK, ?_⟩)) | ((first | refine itePos (by omega) ?_ | refine iteNeg (by omega) ?_); try simp [go_sem, ↓iO, iO, tN, hl]) | (refine ⟨dcK, ?_⟩))
    first | rw [RetQ_ret] | rw [RetQ_normal]
    refine ⟨[], ?_⟩
    simp [go_sem, ↓iO, iO, tN, hn]
end Go.Proofs.Ytopmmodcaoaaeaa
