/- telegram.Decode as a contract. No condition. -/
import Derived.Test.YtopmmodcaoaaeaaTgD
namespace Go.Proofs.Ytopmmodcaoaaeaa
open Go.RowKit Sy
open Go.IntWalk renaming iteOmega → iO, toNatUp → tN
set_option linter.unusedVariables false
set_option linter.unusedSimpArgs false
def decV (b : List Nat) : Tg × Int :=
  if 400 < b.length then (tg0, 4) else if (Wire.unstuff b).2 ≠ 0 then (tg0, (Wire.unstuff b).2) else if (Wire.unstuff b).1.length < 4 then (tg0, 2)
  else if sealV ((Wire.unstuff b).1.take ((Wire.unstuff b).1.length - 4)) ≠ (Wire.unstuff b).1 then (tg0, 5)
  else if (fieldsV ((Wire.unstuff b).1.take ((Wire.unstuff b).1.length - 4))).2 = true then ((fieldsV ((Wire.unstuff b).1.take ((Wire.unstuff b).1.length - 4))).1, 0) else (tg0, 3)
set_option maxRecDepth 100000 in
set_option maxHeartbeats 8000000 in
theorem decode_fn (b : List Nat) (hb : b.length ≤ 1000000) (h8 : ∀ c ∈ b, c < 256) (t : Tg) (e : Int) (hr : decV b = (t, e)) : FnOk Try.prog 44 [.t (encUs b)] [] (.tup [tgS t 1000, .t (.int e)]) [(1000, blkI t.vs)] := by
  unfold decV at hr
  by_cases h4 : 400 < b.length
  · rw [if_pos h4] at hr
    obtain ⟨rfl, rfl⟩ := Prod.mk.inj hr
    refine FnOk.intro fact_mixed Try.func44 rfl Try.ntmps44 (by rfl) (by simp) ?_
    repeat (first | (refine nf1_sound rfl ?_; simp [go_sem, ↓iO, iO, tN]; (repeat (refine anI ?_)); try (refine ⟨dcK, ?_⟩)) | ((first | refine itePos (by omega) ?_ | refine iteNeg (by omega) ?_); try simp [go_sem, ↓iO, iO, tN]) | (refine ⟨dcK, ?_⟩))
    first | rw [RetQ_ret] | rw [RetQ_normal]
    refine ⟨[(1000, none)], ?_⟩
    simp [go_sem, ↓iO, iO, tN, tg0, wkXs]
  rw [if_neg h4] at hr
  have hu := Wire.unstuff_ok h8
  obtain ⟨c, d, hcd⟩ : ∃ c d, Wire.unstuff b = (c, d) := ⟨_, _, rfl⟩
  have cu := unstuff_fn b (by omega) h8 c d hcd
  rw [hcd] at hr hu
  dsimp only at hr hu
  by_cases hd : d ≠ 0
  · rw [if_pos hd] at hr
    obtain ⟨rfl, rfl⟩ := Prod.mk.inj hr
    refine FnOk.intro fact_mixed Try.func44 rfl Try.ntmps44 (by rfl) (by simp) ?_
    repeat (first | (refine nf1_sound rfl ?_; simp [go_sem, ↓iO, iO, tN]; (repeat (refine anI ?_)); try (refine ⟨dcK, ?_⟩)) | ((first | refine itePos (by omega) ?_ | refine iteNeg (by omega) ?_); try simp [go_sem, ↓iO, iO, tN]) | (refine ⟨dcK, ?_⟩))
    refine CallK.fn (cu) [(1000, 615)] [] [] (by kernel_rfl) ?_ ?_ ?_ (Or.inl rfl) ?_ <;> simp [go_sem, ↓iO, iO, tN]
    repeat (refine anI ?_)
    try (refine ⟨dcK, ?_⟩)
    repeat (first | (refine nf1_sound rfl ?_; simp [go_sem, ↓iO, iO, tN, hd]; (repeat (refine anI ?_)); try (refine ⟨dcK, ?_⟩)) | ((first | refine itePos (by omega) ?_ | refine iteNeg (by omega) ?_); try simp [go_sem, ↓iO, iO, tN, hd]) | (refine ⟨dcK, ?_⟩))
    first | rw [RetQ_ret] | rw [RetQ_normal]
    refine ⟨[(1000, none)], ?_⟩
    simp [go_sem, ↓iO, iO, tN, tg0, wkXs]
  rw [if_neg hd] at hr
  have hd0 : d = 0 := by omega
  subst hd0
  by_cases hc4 : c.length < 4
  · rw [if_pos hc4] at hr
    obtain ⟨rfl, rfl⟩ := Prod.mk.inj hr
    refine FnOk.intro fact_mixed Try.func44 rfl Try.ntmps44 (by rfl) (by simp) ?_
    repeat (first | (refine nf1_sound rfl ?_; simp [go_sem, ↓iO, iO, tN]; (repeat (refine anI ?_)); try (refine ⟨dcK, ?_⟩)) | ((first | refine itePos (by omega) ?_ | refine iteNeg (by omega) ?_); try simp [go_sem, ↓iO, iO, tN]) | (refine ⟨dcK, ?_⟩))
    refine CallK.fn (cu) [(1000, 615)] [] [] (by kernel_rfl) ?_ ?_ ?_ (Or.inl rfl) ?_ <;> simp [go_sem, ↓iO, iO, tN]
    repeat (refine anI ?_)
    try (refine ⟨dcK, ?_⟩)
    repeat (first | (refine nf1_sound rfl ?_; simp [go_sem, ↓iO, iO, tN]; (repeat (refine anI ?_)); try (refine ⟨dcK, ?_⟩)) | ((first | refine itePos (by omega) ?_ | refine iteNeg (by omega) ?_); try simp [go_sem, ↓iO, iO, tN]) | (refine ⟨dcK, ?_⟩))
    first | rw [RetQ_ret] | rw [RetQ_normal]
    refine ⟨[(1000, none)], ?_⟩
    simp [go_sem, ↓iO, iO, tN, tg0, wkXs]
  rw [if_neg hc4] at hr
  obtain ⟨x, hx⟩ : ∃ x, c.take (c.length - 4) = x := ⟨_, rfl⟩
  have hxl : x.length = c.length - 4 := by rw [← hx, List.length_take]; omega
  have hx8 : ∀ z ∈ x, z < 256 := by rw [← hx]; exact fun z hz => hu.1 z (List.mem_of_mem_take hz)
  have hmt : List.take (c.length - 4) (c.map encU) = x.map encU := by rw [← hx, List.map_take]
  have htn : ((c.length : Int) - 4).toNat = c.length - 4 := by omega
  rw [hx] at hr
  have cs := sealed_fn x (by omega) hx8
  have hsl : (sealV x).length = x.length + 4 := by unfold sealV; simp
  by_cases hs : sealV x ≠ c
  · rw [if_pos hs] at hr
    obtain ⟨rfl, rfl⟩ := Prod.mk.inj hr
    have ce := equal_fn (sealV x) c (by omega) (by omega) false (decide_eq_false hs)
    refine FnOk.intro fact_mixed Try.func44 rfl Try.ntmps44 (by rfl) (by simp) ?_
    repeat (first | (refine nf1_sound rfl ?_; simp [go_sem, ↓iO, iO, tN]; (repeat (refine anI ?_)); try (refine ⟨dcK, ?_⟩)) | ((first | refine itePos (by omega) ?_ | refine iteNeg (by omega) ?_); try simp [go_sem, ↓iO, iO, tN]) | (refine ⟨dcK, ?_⟩))
    refine CallK.fn (cu) [(1000, 615)] [] [] (by kernel_rfl) ?_ ?_ ?_ (Or.inl rfl) ?_ <;> simp [go_sem, ↓iO, iO, tN]
    repeat (refine anI ?_)
    try (refine ⟨dcK, ?_⟩)
    refine nf_sound [9] _ _ _ ?_
    simp (maxSteps := 2000000) [go_sem, ↓iO, iO, tN, go_sem, stops, firstReg]
    refine ⟨by omega, ?_⟩
    refine CW.weak (ρ := [(502, some 102)]) (σ' := ⟨[(2, .pt 502 [] 0), (3, .t (.int 0)), (4, .t (encUs c)), (6, .t (.int ((c.length : Int) - 4)))], [(502, .box 38 (.t (.agg [.int 0, .int 0, .int 0, .int 0, .int 0, .nil])))]⟩) ?_ ?_
    · simp [go_sem, ↓iO, iO, tN]
    repeat (first | (refine nf1_sound rfl ?_; simp [go_sem, ↓iO, iO, tN, htn, hmt]; (repeat (refine anI ?_)); try (refine ⟨dcK, ?_⟩)) | ((first | refine itePos (by omega) ?_ | refine iteNeg (by omega) ?_); try simp [go_sem, ↓iO, iO, tN, htn, hmt]) | (refine ⟨dcK, ?_⟩))
    refine CallK.fn (cs) [(1000, 631)] [] [] (by kernel_rfl) ?_ ?_ ?_ (Or.inl rfl) ?_ <;> simp [go_sem, ↓iO, iO, tN, hmt]
    repeat (refine anI ?_)
    try (refine ⟨dcK, ?_⟩)
    refine CallK.fn (ce) [] [631] [] (by kernel_rfl) ?_ ?_ ?_ (Or.inr ⟨?_, ?_⟩) ?_ <;> simp [go_sem, ↓iO, iO, tN]
    repeat (refine anI ?_)
    try (refine ⟨dcK, ?_⟩)
    repeat (first | (refine nf1_sound rfl ?_; simp [go_sem, ↓iO, iO, tN]; (repeat (refine anI ?_)); try (refine ⟨dcK, ?_⟩)) | ((first | refine itePos (by omega) ?_ | refine iteNeg (by omega) ?_); try simp [go_sem, ↓iO, iO, tN]) | (refine ⟨dcK, ?_⟩))
    first | rw [RetQ_ret] | rw [RetQ_normal]
    refine ⟨[(1000, none)], ?_⟩
    simp [go_sem, ↓iO, iO, tN, tg0, wkXs]
  rw [if_neg hs] at hr
  have hs1 : sealV x = c := by
    by_cases h : sealV x = c
    · exact h
    · exact absurd h hs
  have ce := equal_fn (sealV x) c (by omega) (by omega) true (decide_eq_true hs1)
  obtain ⟨f, g, hf⟩ : ∃ f g, fieldsV x = (f, g) := ⟨_, _, rfl⟩
  have ct := fields_fn x (by omega) hx8 f g hf
  rw [hf] at hr
  dsimp only at hr
  cases g with
  | true =>
    rw [if_pos rfl] at hr
    obtain ⟨rfl, rfl⟩ := Prod.mk.inj hr
    obtain ⟨t1, t2, t3, t4, t5, vs⟩ := f
    refine FnOk.intro fact_mixed Try.func44 rfl Try.ntmps44 (by rfl) (by simp) ?_
    repeat (first | (refine nf1_sound rfl ?_; simp [go_sem, ↓iO, iO, tN]; (repeat (refine anI ?_)); try (refine ⟨dcK, ?_⟩)) | ((first | refine itePos (by omega) ?_ | refine iteNeg (by omega) ?_); try simp [go_sem, ↓iO, iO, tN]) | (refine ⟨dcK, ?_⟩))
    refine CallK.fn (cu) [(1000, 615)] [] [] (by kernel_rfl) ?_ ?_ ?_ (Or.inl rfl) ?_ <;> simp [go_sem, ↓iO, iO, tN]
    repeat (refine anI ?_)
    try (refine ⟨dcK, ?_⟩)
    refine nf_sound [9] _ _ _ ?_
    simp (maxSteps := 2000000) [go_sem, ↓iO, iO, tN, go_sem, stops, firstReg]
    refine ⟨by omega, ?_⟩
    refine CW.weak (ρ := [(502, some 102)]) (σ' := ⟨[(2, .pt 502 [] 0), (3, .t (.int 0)), (4, .t (encUs c)), (6, .t (.int ((c.length : Int) - 4)))], [(502, .box 38 (.t (.agg [.int 0, .int 0, .int 0, .int 0, .int 0, .nil])))]⟩) ?_ ?_
    · simp [go_sem, ↓iO, iO, tN]
    repeat (first | (refine nf1_sound rfl ?_; simp [go_sem, ↓iO, iO, tN, htn, hmt]; (repeat (refine anI ?_)); try (refine ⟨dcK, ?_⟩)) | ((first | refine itePos (by omega) ?_ | refine iteNeg (by omega) ?_); try simp [go_sem, ↓iO, iO, tN, htn, hmt]) | (refine ⟨dcK, ?_⟩))
    refine CallK.fn (cs) [(1000, 631)] [] [] (by kernel_rfl) ?_ ?_ ?_ (Or.inl rfl) ?_ <;> simp [go_sem, ↓iO, iO, tN, hmt]
    repeat (refine anI ?_)
    try (refine ⟨dcK, ?_⟩)
    refine CallK.fn (ce) [] [631] [] (by kernel_rfl) ?_ ?_ ?_ (Or.inr ⟨?_, ?_⟩) ?_ <;> simp [go_sem, ↓iO, iO, tN]
    repeat (refine anI ?_)
    try (refine ⟨dcK, ?_⟩)
    repeat (first | (refine nf1_sound rfl ?_; simp [go_sem, ↓iO, iO, tN, htn, hmt]; (repeat (refine anI ?_)); try (refine ⟨dcK, ?_⟩)) | ((first | refine itePos (by omega) ?_ | refine iteNeg (by omega) ?_); try simp [go_sem, ↓iO, iO, tN, htn, hmt]) | (refine ⟨dcK, ?_⟩))
    refine CallK.fn (ct) [(1000, 640)] [] [] (by kernel_rfl) ?_ ?_ ?_ (Or.inl rfl) ?_ <;> simp [go_sem, ↓iO, iO, tN, hmt]
    repeat (refine anI ?_)
    try (refine ⟨dcK, ?_⟩)
    repeat (first | (refine nf1_sound rfl ?_; simp [go_sem, ↓iO, iO, tN]; (repeat (refine anI ?_)); try (refine ⟨dcK, ?_⟩)) | ((first | refine itePos (by omega) ?_ | refine iteNeg (by omega) ?_); try simp [go_sem, ↓iO, iO, tN]) | (refine ⟨dcK, ?_⟩))
    first | rw [RetQ_ret] | rw [RetQ_normal]
    refine ⟨[(1000, some 640)], ?_⟩
    simp [go_sem, ↓iO, iO, tN]
  | false =>
    rw [if_neg (by simp)] at hr
    obtain ⟨rfl, rfl⟩ := Prod.mk.inj hr
    obtain ⟨t1, t2, t3, t4, t5, vs⟩ := f
    refine FnOk.intro fact_mixed Try.func44 rfl Try.ntmps44 (by rfl) (by simp) ?_
    repeat (first | (refine nf1_sound rfl ?_; simp [go_sem, ↓iO, iO, tN]; (repeat (refine anI ?_)); try (refine ⟨dcK, ?_⟩)) | ((first | refine itePos (by omega) ?_ | refine iteNeg (by omega) ?_); try simp [go_sem, ↓iO, iO, tN]) | (refine ⟨dcK, ?_⟩))
    refine CallK.fn (cu) [(1000, 615)] [] [] (by kernel_rfl) ?_ ?_ ?_ (Or.inl rfl) ?_ <;> simp [go_sem, ↓iO, iO, tN]
    repeat (refine anI ?_)
    try (refine ⟨dcK, ?_⟩)
    refine nf_sound [9] _ _ _ ?_
    simp (maxSteps := 2000000) [go_sem, ↓iO, iO, tN, go_sem, stops, firstReg]
    refine ⟨by omega, ?_⟩
    refine CW.weak (ρ := [(502, some 102)]) (σ' := ⟨[(2, .pt 502 [] 0), (3, .t (.int 0)), (4, .t (encUs c)), (6, .t (.int ((c.length : Int) - 4)))], [(502, .box 38 (.t (.agg [.int 0, .int 0, .int 0, .int 0, .int 0, .nil])))]⟩) ?_ ?_
    · simp [go_sem, ↓iO, iO, tN]
    repeat (first | (refine nf1_sound rfl ?_; simp [go_sem, ↓iO, iO, tN, htn, hmt]; (repeat (refine anI ?_)); try (refine ⟨dcK, ?_⟩)) | ((first | refine itePos (by omega) ?_ | refine iteNeg (by omega) ?_); try simp [go_sem, ↓iO, iO, tN, htn, hmt]) | (refine ⟨dcK, ?_⟩))
    refine CallK.fn (cs) [(1000, 631)] [] [] (by kernel_rfl) ?_ ?_ ?_ (Or.inl rfl) ?_ <;> simp [go_sem, ↓iO, iO, tN, hmt]
    repeat (refine anI ?_)
    try (refine ⟨dcK, ?_⟩)
    refine CallK.fn (ce) [] [631] [] (by kernel_rfl) ?_ ?_ ?_ (Or.inr ⟨?_, ?_⟩) ?_ <;> simp [go_sem, ↓iO, iO, tN]
    repeat (refine anI ?_)
    try (refine ⟨dcK, ?_⟩)
    repeat (first | (refine nf1_sound rfl ?_; simp [go_sem, ↓iO, iO, tN, htn, hmt]; (repeat (refine anI ?_)); try (refine ⟨dcK, ?_⟩)) | ((first | refine itePos (by omega) ?_ | refine iteNeg (by omega) ?_); try simp [go_sem, ↓iO, iO, tN, htn, hmt]) | (refine ⟨dcK, ?_⟩))
    refine CallK.fn (ct) [(1000, 640)] [] [] (by kernel_rfl) ?_ ?_ ?_ (Or.inl rfl) ?_ <;> simp [go_sem, ↓iO, iO, tN, hmt]
    repeat (refine anI ?_)
    try (refine ⟨dcK, ?_⟩)
    repeat (first | (refine nf1_sound rfl ?_; simp [go_sem, ↓iO, iO, tN]; (repeat (refine anI ?_)); try (refine ⟨dcK, ?_⟩)) | ((first | refine itePos (by omega) ?_ | refine iteNeg (by omega) ?_); try simp [go_sem, ↓iO, iO, tN]) | (refine ⟨dcK, ?_⟩))
    first | rw [RetQ_ret] | rw [RetQ_normal]
    refine ⟨[(1000, none)], ?_⟩
    simp [go_sem, ↓iO, iO, tN, tg0, wkXs]
end Go.Proofs.Ytopmmodcaoaaeaa
