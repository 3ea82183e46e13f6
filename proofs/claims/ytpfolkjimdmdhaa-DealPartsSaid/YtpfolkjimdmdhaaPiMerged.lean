/- piece.merged and ref.Joined as contracts. No condition. -/
import Derived.Test.YtpfolkjimdmdhaaPiB
import Derived.Test.YtpfolkjimdmdhaaPiCutP
namespace Go.Proofs.Ytpfolkjimdmdhaa
open Go.RowKit Sy
set_option linter.unusedVariables false
set_option linter.unusedSimpArgs false
set_option maxRecDepth 100000 in
set_option maxHeartbeats 4000000 in
theorem merged_fn (l : List (Int × Int)) (h : Pc.Sane l) : FnOk Try.prog 43 [.t (encPs l)] [] (.own 1000) [(1000, blkP (Pc.join l))] := by
  have hlen := h.len
  refine FnOk.intro fact_mixed Try.func43 rfl Try.ntmps43 (by rfl) (by simp) ?_
  repeat (first | (refine nf1_sound rfl ?_; simp [go_sem, ↓IntWalk.iteOmega, IntWalk.iteOmega, IntWalk.toNatUp]; (repeat (refine And.intro (by omega) ?_)); try (refine ⟨DrawChk_of (by kernel_rfl), ?_⟩)) | (refine itePos (by omega) ?_; try simp [go_sem, ↓IntWalk.iteOmega, IntWalk.iteOmega, IntWalk.toNatUp]) | (refine iteNeg (by omega) ?_; try simp [go_sem, ↓IntWalk.iteOmega, IntWalk.iteOmega, IntWalk.toNatUp]) | (refine ⟨DrawChk_of (by kernel_rfl), ?_⟩))
  refine nf1_sound' _ _ _ ?_; simp only [nf1]
  refine CW.loop (ι := Nat) (fun k => ⟨[(3, .own 500), (7, .t (encPs l)), (8, .t (.int l.length)), (9, .t (.int k))], [(500, blkP (Pc.join (l.take k)))]⟩) (fun k => k ≤ l.length) (fun k => l.length - k) 0 [(500, none)] (by omega) ?_ ?_
  · simp [go_sem, ↓IntWalk.iteOmega, IntWalk.iteOmega, IntWalk.toNatUp, Pc.join]
  intro k hk
  by_cases hb : k < l.length
  · obtain ⟨p, hp⟩ := has_get hb
    have hs := Pc.join_snoc hp
    have hpv := h.each p (mem_get hp)
    have hjl := Pc.join_length (l.take k)
    rw [List.length_take] at hjl
    have hje := join_each (h.take k)
    obtain ⟨out, hout⟩ : ∃ out, out = Pc.join (l.take k) := ⟨_, rfl⟩
    rw [← hout] at hs hjl hje
    by_cases hz : p.2 = 0
    · rw [Pc.jstep_zero hz] at hs
      repeat (first | (refine nf1_sound rfl ?_; simp [go_sem, ↓IntWalk.iteOmega, IntWalk.iteOmega, IntWalk.toNatUp, hp, hz, ← hout]; (repeat (refine And.intro (by omega) ?_)); try (refine ⟨DrawChk_of (by kernel_rfl), ?_⟩)) | (refine itePos (by omega) ?_; try simp [go_sem, ↓IntWalk.iteOmega, IntWalk.iteOmega, IntWalk.toNatUp, hp, hz, ← hout]) | (refine iteNeg (by omega) ?_; try simp [go_sem, ↓IntWalk.iteOmega, IntWalk.iteOmega, IntWalk.toNatUp, hp, hz, ← hout]) | (refine ⟨DrawChk_of (by kernel_rfl), ?_⟩))
      rw [RoundQ_normal]; refine ⟨k + 1, [(500, some 500)], ?_, ?_, ?_⟩
      · omega
      · omega
      simp [go_sem, ↓IntWalk.iteOmega, IntWalk.iteOmega, IntWalk.toNatUp, hs, ← hout]
    · rcases List.eq_nil_or_concat out with rfl | ⟨o, q, rfl⟩
      · rw [Pc.jstep_new hz (by simp)] at hs
        repeat (first | (refine nf1_sound rfl ?_; simp [go_sem, ↓IntWalk.iteOmega, IntWalk.iteOmega, IntWalk.toNatUp, hp, hz, ← hout]; (repeat (refine And.intro (by omega) ?_)); try (refine ⟨DrawChk_of (by kernel_rfl), ?_⟩)) | (refine itePos (by omega) ?_; try simp [go_sem, ↓IntWalk.iteOmega, IntWalk.iteOmega, IntWalk.toNatUp, hp, hz, ← hout]) | (refine iteNeg (by omega) ?_; try simp [go_sem, ↓IntWalk.iteOmega, IntWalk.iteOmega, IntWalk.toNatUp, hp, hz, ← hout]) | (refine ⟨DrawChk_of (by kernel_rfl), ?_⟩))
        rw [RoundQ_normal]; refine ⟨k + 1, [(500, some 118)], ?_, ?_, ?_⟩
        · omega
        · omega
        simp [go_sem, ↓IntWalk.iteOmega, IntWalk.iteOmega, IntWalk.toNatUp, hs, ← hout]
      · simp only [List.concat_eq_append] at *
        simp only [List.length_append, List.length_singleton] at hjl
        have hq := hje q (by simp)
        by_cases he : q.1 = p.1
        · rw [Pc.jstep_same hz (by simp) he, List.dropLast_concat] at hs
          repeat (first | (refine nf1_sound rfl ?_; simp [go_sem, ↓IntWalk.iteOmega, IntWalk.iteOmega, IntWalk.toNatUp, hp, hz, ← hout, he]; (repeat (refine And.intro (by omega) ?_)); try (refine ⟨DrawChk_of (by kernel_rfl), ?_⟩)) | (refine itePos (by omega) ?_; try simp [go_sem, ↓IntWalk.iteOmega, IntWalk.iteOmega, IntWalk.toNatUp, hp, hz, ← hout, he]) | (refine iteNeg (by omega) ?_; try simp [go_sem, ↓IntWalk.iteOmega, IntWalk.iteOmega, IntWalk.toNatUp, hp, hz, ← hout, he]) | (refine ⟨DrawChk_of (by kernel_rfl), ?_⟩))
          rw [RoundQ_normal]; refine ⟨k + 1, [(500, some 500)], ?_, ?_, ?_⟩
          · omega
          · omega
          simp [go_sem, ↓IntWalk.iteOmega, IntWalk.iteOmega, IntWalk.toNatUp, hs, ← hout, he]
        · rw [Pc.jstep_new hz (by simpa using he)] at hs
          repeat (first | (refine nf1_sound rfl ?_; simp [go_sem, ↓IntWalk.iteOmega, IntWalk.iteOmega, IntWalk.toNatUp, hp, hz, ← hout, he]; (repeat (refine And.intro (by omega) ?_)); try (refine ⟨DrawChk_of (by kernel_rfl), ?_⟩)) | (refine itePos (by omega) ?_; try simp [go_sem, ↓IntWalk.iteOmega, IntWalk.iteOmega, IntWalk.toNatUp, hp, hz, ← hout, he]) | (refine iteNeg (by omega) ?_; try simp [go_sem, ↓IntWalk.iteOmega, IntWalk.iteOmega, IntWalk.toNatUp, hp, hz, ← hout, he]) | (refine ⟨DrawChk_of (by kernel_rfl), ?_⟩))
          rw [RoundQ_normal]; refine ⟨k + 1, [(500, some 118)], ?_, ?_, ?_⟩
          · omega
          · omega
          simp [go_sem, ↓IntWalk.iteOmega, IntWalk.iteOmega, IntWalk.toNatUp, hs, ← hout, he]
  · obtain rfl : k = l.length := by omega
    repeat (first | (refine nf1_sound rfl ?_; simp [go_sem, ↓IntWalk.iteOmega, IntWalk.iteOmega, IntWalk.toNatUp]; (repeat (refine And.intro (by omega) ?_)); try (refine ⟨DrawChk_of (by kernel_rfl), ?_⟩)) | (refine itePos (by omega) ?_; try simp [go_sem, ↓IntWalk.iteOmega, IntWalk.iteOmega, IntWalk.toNatUp]) | (refine iteNeg (by omega) ?_; try simp [go_sem, ↓IntWalk.iteOmega, IntWalk.iteOmega, IntWalk.toNatUp]) | (refine ⟨DrawChk_of (by kernel_rfl), ?_⟩))
    first | rw [RetQ_ret] | rw [RetQ_normal]
    refine ⟨[(1000, some 500)], ?_⟩
    simp [go_sem, ↓IntWalk.iteOmega, IntWalk.iteOmega, IntWalk.toNatUp, List.take_length]
end Go.Proofs.Ytpfolkjimdmdhaa
