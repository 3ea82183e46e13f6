/- piece.cut as a contract. No condition. -/
import Derived.Test.YtgfofmdpbabinaaPiMerged
import Derived.Test.YtgfofmdpbabinaaPiClone
namespace Go.Proofs.Ytgfofmdpbabinaa
open Go.RowKit Sy
set_option linter.unusedVariables false
set_option linter.unusedSimpArgs false
theorem heads_sane {l : List (Int × Int)} (h : Pc.Sane l) {k : Int} (hk : 0 ≤ k) : Pc.Sane (Pc.heads l k) := ⟨by rw [Pc.heads_length]; exact h.len, Pc.heads_each l h.each k hk⟩
theorem tails_sane {l : List (Int × Int)} (h : Pc.Sane l) {k : Int} (hk : 0 ≤ k) : Pc.Sane (Pc.tails l k) := ⟨by rw [Pc.tails_length]; exact h.len, Pc.tails_each l h.each k hk⟩
set_option maxRecDepth 100000 in
set_option maxHeartbeats 4000000 in
theorem cut_fn (l : List (Int × Int)) (k : Int) (h : Pc.Sane l) (hk : 0 ≤ k) (hk2 : k ≤ 1000000000000) : FnOk Try.prog 34 [.t (encPs l), .t (.int k)] [] (.tup [.own 1000, .own 1001])
    [(1000, blkP (Pc.join (Pc.heads l k))), (1001, blkP (Pc.join (Pc.tails l k)))] := by
  have hlen := h.len
  refine FnOk.intro fact_mixed Try.func34 rfl Try.ntmps34 (by rfl) (by simp) ?_
  repeat (first | (refine nf1_sound rfl ?_; simp [go_sem, ↓IntWalk.iteOmega, IntWalk.iteOmega, IntWalk.toNatUp]; (repeat (refine And.intro (by omega) ?_)); try (refine ⟨DrawChk_of (by kernel_rfl), ?_⟩)) | (refine itePos (by omega) ?_; try simp [go_sem, ↓IntWalk.iteOmega, IntWalk.iteOmega, IntWalk.toNatUp]) | (refine iteNeg (by omega) ?_; try simp [go_sem, ↓IntWalk.iteOmega, IntWalk.iteOmega, IntWalk.toNatUp]) | (refine ⟨DrawChk_of (by kernel_rfl), ?_⟩))
  refine CallK.fn (clone_fn l (by omega)) [(1000, 111)] [] [] (by kernel_rfl) (by simp [go_sem, ↓IntWalk.iteOmega, IntWalk.iteOmega, IntWalk.toNatUp]) (by simp [go_sem, ↓IntWalk.iteOmega, IntWalk.iteOmega, IntWalk.toNatUp]) (by simp [go_sem, ↓IntWalk.iteOmega, IntWalk.iteOmega, IntWalk.toNatUp]) (Or.inl rfl) ?_
  simp [go_sem, ↓IntWalk.iteOmega, IntWalk.iteOmega, IntWalk.toNatUp]
  repeat (refine And.intro (by omega) ?_)
  try (refine ⟨DrawChk_of (by kernel_rfl), ?_⟩)
  refine CallK.fn (clone_fn l (by omega)) [(1000, 113)] [] [] (by kernel_rfl) (by simp [go_sem, ↓IntWalk.iteOmega, IntWalk.iteOmega, IntWalk.toNatUp]) (by simp [go_sem, ↓IntWalk.iteOmega, IntWalk.iteOmega, IntWalk.toNatUp]) (by simp [go_sem, ↓IntWalk.iteOmega, IntWalk.iteOmega, IntWalk.toNatUp]) (Or.inl rfl) ?_
  simp [go_sem, ↓IntWalk.iteOmega, IntWalk.iteOmega, IntWalk.toNatUp]
  repeat (refine And.intro (by omega) ?_)
  try (refine ⟨DrawChk_of (by kernel_rfl), ?_⟩)
  repeat (first | (refine nf1_sound rfl ?_; simp [go_sem, ↓IntWalk.iteOmega, IntWalk.iteOmega, IntWalk.toNatUp]; (repeat (refine And.intro (by omega) ?_)); try (refine ⟨DrawChk_of (by kernel_rfl), ?_⟩)) | (refine itePos (by omega) ?_; try simp [go_sem, ↓IntWalk.iteOmega, IntWalk.iteOmega, IntWalk.toNatUp]) | (refine iteNeg (by omega) ?_; try simp [go_sem, ↓IntWalk.iteOmega, IntWalk.iteOmega, IntWalk.toNatUp]) | (refine ⟨DrawChk_of (by kernel_rfl), ?_⟩))
  refine nf1_sound' _ _ _ ?_; simp only [nf1]
  refine CW.loop (ι := Nat) (fun i => ⟨[(6, .own 500), (7, .own 501), (1, .t (.int (Pc.rest (l.take i) k))), (14, .t (encPs l)), (15, .t (.int l.length)), (16, .t (.int i))], [(500, blkP (Pc.heads (l.take i) k ++ l.drop i)), (501, blkP (Pc.tails (l.take i) k ++ l.drop i))]⟩)
    (fun i => i ≤ l.length) (fun i => l.length - i) 0 [(500, some 111), (501, some 113)] (by omega) ?_ ?_
  · simp [go_sem, ↓IntWalk.iteOmega, IntWalk.iteOmega, IntWalk.toNatUp, Pc.heads, Pc.tails, Pc.rest]
  intro i hi
  have hrr := Pc.rest_range (l.take i) (fun p hp => ((h.take i).each p hp).1) k hk
  by_cases hb : i < l.length
  · obtain ⟨p, hp⟩ := has_get hb
    have hpv := h.each p (mem_get hp)
    have e1 := Pc.heads_snoc k hp
    have e2 := Pc.tails_snoc k hp
    have e3 := Pc.rest_snoc k hp
    have e4 := drop_get hp
    have l1 : (Pc.heads (l.take i) k).length = i := by rw [Pc.heads_length, List.length_take]; omega
    have l2 : (Pc.tails (l.take i) k).length = i := by rw [Pc.tails_length, List.length_take]; omega
    obtain ⟨hd, hhd⟩ : ∃ x, x = Pc.heads (l.take i) k := ⟨_, rfl⟩
    obtain ⟨tl, htl⟩ : ∃ x, x = Pc.tails (l.take i) k := ⟨_, rfl⟩
    obtain ⟨r, hr⟩ : ∃ x, x = Pc.rest (l.take i) k := ⟨_, rfl⟩
    obtain ⟨d, hdd⟩ : ∃ x, x = l.drop (i + 1) := ⟨_, rfl⟩
    rw [← hr] at e1 e2 e3 hrr
    rw [← hhd] at e1 l1
    rw [← htl] at e2 l2
    rw [← hdd] at e4
    have hdl : d.length = l.length - (i + 1) := by rw [hdd, List.length_drop]
    have hm : 0 ≤ min p.2 r ∧ min p.2 r ≤ p.2 ∧ min p.2 r ≤ r := by omega
    repeat (first | (refine nf1_sound rfl ?_; simp [go_sem, ↓IntWalk.iteOmega, IntWalk.iteOmega, IntWalk.toNatUp, hp, ← hhd, ← htl, ← hr, e4, l1, l2]; (repeat (refine And.intro (by omega) ?_)); try (refine ⟨DrawChk_of (by kernel_rfl), ?_⟩)) | (refine itePos (by omega) ?_; try simp [go_sem, ↓IntWalk.iteOmega, IntWalk.iteOmega, IntWalk.toNatUp, hp, ← hhd, ← htl, ← hr, e4, l1, l2]) | (refine iteNeg (by omega) ?_; try simp [go_sem, ↓IntWalk.iteOmega, IntWalk.iteOmega, IntWalk.toNatUp, hp, ← hhd, ← htl, ← hr, e4, l1, l2]) | (refine ⟨DrawChk_of (by kernel_rfl), ?_⟩))
    have hdm : (l.map encP).drop (i + 1) = d.map encP := by rw [hdd, List.map_drop]
    rw [RoundQ_normal]; refine ⟨i + 1, [(500, some 500), (501, some 501)], ?_, ?_, ?_⟩
    · omega
    · omega
    simp [go_sem, ↓IntWalk.iteOmega, IntWalk.iteOmega, IntWalk.toNatUp, e1, e2, e3, hdm]
  · obtain rfl : i = l.length := by omega
    repeat (first | (refine nf1_sound rfl ?_; simp [go_sem, ↓IntWalk.iteOmega, IntWalk.iteOmega, IntWalk.toNatUp]; (repeat (refine And.intro (by omega) ?_)); try (refine ⟨DrawChk_of (by kernel_rfl), ?_⟩)) | (refine itePos (by omega) ?_; try simp [go_sem, ↓IntWalk.iteOmega, IntWalk.iteOmega, IntWalk.toNatUp]) | (refine iteNeg (by omega) ?_; try simp [go_sem, ↓IntWalk.iteOmega, IntWalk.iteOmega, IntWalk.toNatUp]) | (refine ⟨DrawChk_of (by kernel_rfl), ?_⟩))
    refine CallK.fn (merged_fn (Pc.heads l k) (heads_sane h hk)) [(1000, 150)] [500] [] (by kernel_rfl) (by simp [go_sem, ↓IntWalk.iteOmega, IntWalk.iteOmega, IntWalk.toNatUp]) (by simp [go_sem, ↓IntWalk.iteOmega, IntWalk.iteOmega, IntWalk.toNatUp]) (by simp [go_sem, ↓IntWalk.iteOmega, IntWalk.iteOmega, IntWalk.toNatUp]) (Or.inr ⟨by simp [go_sem, ↓IntWalk.iteOmega, IntWalk.iteOmega, IntWalk.toNatUp], by simp [go_sem, ↓IntWalk.iteOmega, IntWalk.iteOmega, IntWalk.toNatUp]⟩) ?_
    simp [go_sem, ↓IntWalk.iteOmega, IntWalk.iteOmega, IntWalk.toNatUp]
    repeat (refine And.intro (by omega) ?_)
    try (refine ⟨DrawChk_of (by kernel_rfl), ?_⟩)
    refine CallK.fn (merged_fn (Pc.tails l k) (tails_sane h hk)) [(1000, 152)] [501] [] (by kernel_rfl) (by simp [go_sem, ↓IntWalk.iteOmega, IntWalk.iteOmega, IntWalk.toNatUp]) (by simp [go_sem, ↓IntWalk.iteOmega, IntWalk.iteOmega, IntWalk.toNatUp]) (by simp [go_sem, ↓IntWalk.iteOmega, IntWalk.iteOmega, IntWalk.toNatUp]) (Or.inr ⟨by simp [go_sem, ↓IntWalk.iteOmega, IntWalk.iteOmega, IntWalk.toNatUp], by simp [go_sem, ↓IntWalk.iteOmega, IntWalk.iteOmega, IntWalk.toNatUp]⟩) ?_
    simp [go_sem, ↓IntWalk.iteOmega, IntWalk.iteOmega, IntWalk.toNatUp]
    repeat (refine And.intro (by omega) ?_)
    try (refine ⟨DrawChk_of (by kernel_rfl), ?_⟩)
    repeat (first | (refine nf1_sound rfl ?_; simp [go_sem, ↓IntWalk.iteOmega, IntWalk.iteOmega, IntWalk.toNatUp]; (repeat (refine And.intro (by omega) ?_)); try (refine ⟨DrawChk_of (by kernel_rfl), ?_⟩)) | (refine itePos (by omega) ?_; try simp [go_sem, ↓IntWalk.iteOmega, IntWalk.iteOmega, IntWalk.toNatUp]) | (refine iteNeg (by omega) ?_; try simp [go_sem, ↓IntWalk.iteOmega, IntWalk.iteOmega, IntWalk.toNatUp]) | (refine ⟨DrawChk_of (by kernel_rfl), ?_⟩))
    first | rw [RetQ_ret] | rw [RetQ_normal]
    refine ⟨[(1000, some 150), (1001, some 152)], ?_⟩
    simp [go_sem, ↓IntWalk.iteOmega, IntWalk.iteOmega, IntWalk.toNatUp]
end Go.Proofs.Ytgfofmdpbabinaa
