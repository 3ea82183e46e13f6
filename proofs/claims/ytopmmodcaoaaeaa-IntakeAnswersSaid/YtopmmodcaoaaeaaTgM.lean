/- The reference's Decode as a contract. No condition. -/
import Derived.Test.YtopmmodcaoaaeaaTgR
import Derived.Test.YtopmmodcaoaaeaaTgL
namespace Go.Proofs.Ytopmmodcaoaaeaa
open Go.RowKit Sy
open Go.IntWalk renaming iteOmega → iO, toNatUp → tN
set_option linter.unusedVariables false
set_option linter.unusedSimpArgs false
set_option maxRecDepth 100000 in
set_option maxHeartbeats 16000000 in
theorem rdecode_fn (b : List Nat) (hb : b.length ≤ 1000000) (h8 : ∀ c ∈ b, c < 256) (t : Tg) (e : Int) (hr : decV b = (t, e)) : FnOk Try.prog 45 [.t (encUs b)] [] (.tup [.t (encTg t), .t (.int e)]) [] := by
  unfold decV at hr
  by_cases h4 : 400 < b.length
  · rw [if_pos h4] at hr
    obtain ⟨rfl, rfl⟩ := Prod.mk.inj hr
    refine FnOk.intro fact_mixed Try.func45 rfl Try.ntmps45 (by rfl) (by simp) ?_
    repeat (first | (refine nf1_sound rfl ?_; simp [go_sem, ↓iO, iO, tN]; (repeat (refine anI ?_)); try (refine ⟨dcK, ?_⟩)) | ((first | refine itePos (by omega) ?_ | refine iteNeg (by omega) ?_); try simp [go_sem, ↓iO, iO, tN]) | (refine ⟨dcK, ?_⟩))
    first | rw [RetQ_ret] | rw [RetQ_normal]
    refine ⟨[], ?_⟩
    simp [go_sem, ↓iO, iO, tN, tg0, wkXs]
  rw [if_neg h4] at hr
  have hu := Wire.unstuff_ok h8
  obtain ⟨c, d, hcd⟩ : ∃ c d, Wire.unstuff b = (c, d) := ⟨_, _, rfl⟩
  have cu := runstuff_fn b (by omega) h8 c d hcd
  rw [hcd] at hr hu
  dsimp only at hr hu
  by_cases hd : d ≠ 0
  · rw [if_pos hd] at hr
    obtain ⟨rfl, rfl⟩ := Prod.mk.inj hr
    refine FnOk.intro fact_mixed Try.func45 rfl Try.ntmps45 (by rfl) (by simp) ?_
    repeat (first | (refine nf1_sound rfl ?_; simp [go_sem, ↓iO, iO, tN]; (repeat (refine anI ?_)); try (refine ⟨dcK, ?_⟩)) | ((first | refine itePos (by omega) ?_ | refine iteNeg (by omega) ?_); try simp [go_sem, ↓iO, iO, tN]) | (refine ⟨dcK, ?_⟩))
    refine CallK.fn (cu) [(1000, 618)] [] [] (by kernel_rfl) ?_ ?_ ?_ (Or.inl rfl) ?_ <;> simp [go_sem, ↓iO, iO, tN]
    repeat (refine anI ?_)
    try (refine ⟨dcK, ?_⟩)
    repeat (first | (refine nf1_sound rfl ?_; simp [go_sem, ↓iO, iO, tN, hd]; (repeat (refine anI ?_)); try (refine ⟨dcK, ?_⟩)) | ((first | refine itePos (by omega) ?_ | refine iteNeg (by omega) ?_); try simp [go_sem, ↓iO, iO, tN, hd]) | (refine ⟨dcK, ?_⟩))
    first | rw [RetQ_ret] | rw [RetQ_normal]
    refine ⟨[], ?_⟩
    simp [go_sem, ↓iO, iO, tN, tg0, wkXs]
  rw [if_neg hd] at hr
  have hd0 : d = 0 := by omega
  subst hd0
  by_cases hc4 : c.length < 4
  · rw [if_pos hc4] at hr
    obtain ⟨rfl, rfl⟩ := Prod.mk.inj hr
    refine FnOk.intro fact_mixed Try.func45 rfl Try.ntmps45 (by rfl) (by simp) ?_
    repeat (first | (refine nf1_sound rfl ?_; simp [go_sem, ↓iO, iO, tN]; (repeat (refine anI ?_)); try (refine ⟨dcK, ?_⟩)) | ((first | refine itePos (by omega) ?_ | refine iteNeg (by omega) ?_); try simp [go_sem, ↓iO, iO, tN]) | (refine ⟨dcK, ?_⟩))
    refine CallK.fn (cu) [(1000, 618)] [] [] (by kernel_rfl) ?_ ?_ ?_ (Or.inl rfl) ?_ <;> simp [go_sem, ↓iO, iO, tN]
    repeat (refine anI ?_)
    try (refine ⟨dcK, ?_⟩)
    repeat (first | (refine nf1_sound rfl ?_; simp [go_sem, ↓iO, iO, tN]; (repeat (refine anI ?_)); try (refine ⟨dcK, ?_⟩)) | ((first | refine itePos (by omega) ?_ | refine iteNeg (by omega) ?_); try simp [go_sem, ↓iO, iO, tN]) | (refine ⟨dcK, ?_⟩))
    first | rw [RetQ_ret] | rw [RetQ_normal]
    refine ⟨[], ?_⟩
    simp [go_sem, ↓iO, iO, tN, tg0, wkXs]
  rw [if_neg hc4] at hr
  obtain ⟨x, hx⟩ : ∃ x, c.take (c.length - 4) = x := ⟨_, rfl⟩
  have hxl : x.length = c.length - 4 := by rw [← hx, List.length_take]; omega
  have hx8 : ∀ z ∈ x, z < 256 := by rw [← hx]; exact fun z hz => hu.1 z (List.mem_of_mem_take hz)
  have hmt : List.take (c.length - 4) (c.map encU) = x.map encU := by rw [← hx, List.map_take]
  have htn : ((c.length : Int) - 4).toNat = c.length - 4 := by omega
  rw [hx] at hr
  have cs := rsealed_fn x (by omega) hx8
  have hsl : (sealV x).length = x.length + 4 := by unfold sealV; simp
  have hbe := str_beq (sealV_b8 hx8) hu.1
  by_cases hs : sealV x ≠ c
  · rw [if_pos hs] at hr
    obtain ⟨rfl, rfl⟩ := Prod.mk.inj hr
    rw [decide_eq_false hs] at hbe
    refine FnOk.intro fact_mixed Try.func45 rfl Try.ntmps45 (by rfl) (by simp) ?_
    repeat (first | (refine nf1_sound rfl ?_; simp [go_sem, ↓iO, iO, tN]; (repeat (refine anI ?_)); try (refine ⟨dcK, ?_⟩)) | ((first | refine itePos (by omega) ?_ | refine iteNeg (by omega) ?_); try simp [go_sem, ↓iO, iO, tN]) | (refine ⟨dcK, ?_⟩))
    refine CallK.fn (cu) [(1000, 618)] [] [] (by kernel_rfl) ?_ ?_ ?_ (Or.inl rfl) ?_ <;> simp [go_sem, ↓iO, iO, tN]
    repeat (refine anI ?_)
    try (refine ⟨dcK, ?_⟩)
    refine nf_sound [8] _ _ _ ?_
    simp (maxSteps := 2000000) [go_sem, ↓iO, iO, tN, go_sem, stops, firstReg]
    refine CW.weak (ρ := [(502, some 102)]) (σ' := ⟨[(0, .t (encUs b)), (2, .pt 502 [] 0), (3, .t (.int 0)), (4, .t (encUs c))], [(502, .box 38 (.t (.agg [.int 0, .int 0, .int 0, .int 0, .int 0, .nil])))]⟩) ?_ ?_
    · simp [go_sem, ↓iO, iO, tN]
    repeat (first | (refine nf1_sound rfl ?_; simp [go_sem, ↓iO, iO, tN, htn, hmt]; (repeat (refine anI ?_)); try (refine ⟨dcK, ?_⟩)) | ((first | refine itePos (by omega) ?_ | refine iteNeg (by omega) ?_); try simp [go_sem, ↓iO, iO, tN, htn, hmt]) | (refine ⟨dcK, ?_⟩))
    refine CallK.fn (cs) [(1000, 634)] [] [] (by kernel_rfl) ?_ ?_ ?_ (Or.inl rfl) ?_ <;> simp [go_sem, ↓iO, iO, tN, hmt]
    repeat (refine anI ?_)
    try (refine ⟨dcK, ?_⟩)
    repeat (first | (refine nf1_sound rfl ?_; simp [go_sem, ↓iO, iO, tN, hbe]; (repeat (refine anI ?_)); try (refine ⟨dcK, ?_⟩)) | ((first | refine itePos (by omega) ?_ | refine iteNeg (by omega) ?_); try simp [go_sem, ↓iO, iO, tN, hbe]) | (refine ⟨dcK, ?_⟩))
    first | rw [RetQ_ret] | rw [RetQ_normal]
    refine ⟨[], ?_⟩
    simp [go_sem, ↓iO, iO, tN, tg0, wkXs]
  rw [if_neg hs] at hr
  have hs1 : sealV x = c := by
    by_cases h : sealV x = c
    · exact h
    · exact absurd h hs
  rw [decide_eq_true hs1] at hbe
  have hi := fun k => rint_fn x (aG x k) (by omega) hx8 _ _ _ (g_at x k)
  have ha0 : aG x 0 = 0 := rfl
  have hnf := fun k => not_fields hx8 (k := k)
  have hyf := fun k => yes_fields (bs := x) (k := k)
  have htl := fun k => tgOf_list (bs := x) (k := k)
  have hst := fun i => a_step hx8 (i := i)
  obtain ⟨T, hT⟩ : ∃ T, tgOf x = T := ⟨_, rfl⟩
  obtain ⟨W, hW⟩ : ∃ W : Nat → List Int, ∀ k, (List.range k).map (vG x) = W k := ⟨_, fun _ => rfl⟩
  have hwl : ∀ k, (W k).length = k := fun k => by rw [← hW]; simp
  have hw0 : W 0 = [] := by rw [← hW]; rfl
  have hws : ∀ k, W (k + 1) = W k ++ [vG x k] := fun k => by rw [← hW, ← hW, List.range_succ, List.map_append]; rfl
  have hwg : ∀ k i, i < k → (W k)[i]? = some (vG x i) := fun k i hi => by rw [← hW, List.getElem?_map, List.getElem?_range hi]; rfl
  obtain ⟨A, hA⟩ : ∃ A : Nat → Int, ∀ i, aG x i = A i := ⟨_, fun _ => rfl⟩
  obtain ⟨V, hV⟩ : ∃ A : Nat → Int, ∀ i, vG x i = A i := ⟨_, fun _ => rfl⟩
  obtain ⟨R, hR⟩ : ∃ A : Nat → Int, ∀ i, eG x i = A i := ⟨_, fun _ => rfl⟩
  simp only [hA, hV, hR, hT, hW] at hi ha0 hnf hyf htl hst hws hwg
  obtain ⟨f, g, hf⟩ : ∃ f g, fieldsV x = (f, g) := ⟨_, _, rfl⟩
  rw [hf] at hr
  dsimp only at hr
  simp only [hf] at hnf hyf
  clear hA hV hR hT hW hf hcd
  refine FnOk.intro fact_mixed Try.func45 rfl Try.ntmps45 (by rfl) (by simp) ?_
  repeat (first | (refine nf1_sound rfl ?_; simp [go_sem, ↓iO, iO, tN]; (repeat (refine anI ?_)); try (refine ⟨dcK, ?_⟩)) | ((first | refine itePos (by omega) ?_ | refine iteNeg (by omega) ?_); try simp [go_sem, ↓iO, iO, tN]) | (refine ⟨dcK, ?_⟩))
  refine CallK.fn (cu) [(1000, 618)] [] [] (by kernel_rfl) ?_ ?_ ?_ (Or.inl rfl) ?_ <;> simp [go_sem, ↓iO, iO, tN]
  repeat (refine anI ?_)
  try (refine ⟨dcK, ?_⟩)
  refine nf_sound [8] _ _ _ ?_
  simp (maxSteps := 2000000) [go_sem, ↓iO, iO, tN, go_sem, stops, firstReg]
  refine CW.weak (ρ := [(502, some 102)]) (σ' := ⟨[(0, .t (encUs b)), (2, .pt 502 [] 0), (3, .t (.int 0)), (4, .t (encUs c))], [(502, .box 38 (.t (.agg [.int 0, .int 0, .int 0, .int 0, .int 0, .nil])))]⟩) ?_ ?_
  · simp [go_sem, ↓iO, iO, tN]
  repeat (first | (refine nf1_sound rfl ?_; simp [go_sem, ↓iO, iO, tN, htn, hmt]; (repeat (refine anI ?_)); try (refine ⟨dcK, ?_⟩)) | ((first | refine itePos (by omega) ?_ | refine iteNeg (by omega) ?_); try simp [go_sem, ↓iO, iO, tN, htn, hmt]) | (refine ⟨dcK, ?_⟩))
  refine CallK.fn (cs) [(1000, 634)] [] [] (by kernel_rfl) ?_ ?_ ?_ (Or.inl rfl) ?_ <;> simp [go_sem, ↓iO, iO, tN, hmt]
  repeat (refine anI ?_)
  try (refine ⟨dcK, ?_⟩)
  repeat (first | (refine nf1_sound rfl ?_; simp [go_sem, ↓iO, iO, tN, hbe]; (repeat (refine anI ?_)); try (refine ⟨dcK, ?_⟩)) | ((first | refine itePos (by omega) ?_ | refine iteNeg (by omega) ?_); try simp [go_sem, ↓iO, iO, tN, hbe]) | (refine ⟨dcK, ?_⟩))
  refine nf1_sound' _ _ _ ?_; simp only [nf1]
  refine CW.loop (ι := Nat) (fun k => ⟨[(2, .pt 502 [] 0), (3, .t (.int 0)), (4, .t (encUs c)), (6, .own 506), (7, .t (.int (A k)))], [(502, .box 38 (.t (.agg [.int 0, .int 0, .int 0, .int 0, .int 0, .nil]))), (506, blkI (W k))]⟩) (fun k => (∀ i, i < k → R i = 0) ∧ 0 ≤ A k ∧ A k ≤ x.length ∧ k ≤ A k) (fun k => x.length - (A k).toNat) 0 [(502, some 502), (506, none)] ⟨by intros; omega, by omega, by omega, by omega⟩ ?_ ?_
  · simp [go_sem, ↓iO, iO, tN, hw0, ha0]
  rintro k ⟨hok, hA0, hAl, hkA⟩
  have hwk := hwl k
  by_cases hlt : A k < x.length
  · have hc := hi k
    by_cases hRk : R k = 0
    · have hok2 : ∀ i, i < k + 1 → R i = 0 := fun i h => by
        by_cases e : i = k
        · rw [e]; exact hRk
        · exact hok i (by omega)
      have e := hws k
      have hs2 := hst k hRk
      repeat (first | (refine nf1_sound rfl ?_; simp [go_sem, ↓iO, iO, tN, htn, hmt]; (repeat (refine anI ?_)); try (refine ⟨dcK, ?_⟩)) | ((first | refine itePos (by omega) ?_ | refine iteNeg (by omega) ?_); try simp [go_sem, ↓iO, iO, tN, htn, hmt]) | (refine ⟨dcK, ?_⟩))
      refine CallK.fn (hc) [] [] [] (by kernel_rfl) ?_ ?_ ?_ (Or.inl rfl) ?_ <;> simp [go_sem, ↓iO, iO, tN, hmt]
      repeat (refine anI ?_)
      try (refine ⟨dcK, ?_⟩)
      repeat (first | (refine nf1_sound rfl ?_; simp [go_sem, ↓iO, iO, tN, hRk]; (repeat (refine anI ?_)); try (refine ⟨dcK, ?_⟩)) | ((first | refine itePos (by omega) ?_ | refine iteNeg (by omega) ?_); try simp [go_sem, ↓iO, iO, tN, hRk]) | (refine ⟨dcK, ?_⟩))
      rw [RoundQ_normal]; refine ⟨k + 1, [(502, some 502), (506, some 162)], ?_, ?_, ?_⟩
      · exact ⟨hok2, by omega, hs2.2.1, by omega⟩
      · omega
      simp [go_sem, ↓iO, iO, tN, e]
    · have hg := hnf k hok (.inl ⟨hlt, hRk⟩)
      subst hg
      rw [if_neg (by simp)] at hr
      obtain ⟨rfl, rfl⟩ := Prod.mk.inj hr
      repeat (first | (refine nf1_sound rfl ?_; simp [go_sem, ↓iO, iO, tN, htn, hmt]; (repeat (refine anI ?_)); try (refine ⟨dcK, ?_⟩)) | ((first | refine itePos (by omega) ?_ | refine iteNeg (by omega) ?_); try simp [go_sem, ↓iO, iO, tN, htn, hmt]) | (refine ⟨dcK, ?_⟩))
      refine CallK.fn (hc) [] [] [] (by kernel_rfl) ?_ ?_ ?_ (Or.inl rfl) ?_ <;> simp [go_sem, ↓iO, iO, tN, hmt]
      repeat (refine anI ?_)
      try (refine ⟨dcK, ?_⟩)
      repeat (first | (refine nf1_sound rfl ?_; simp [go_sem, ↓iO, iO, tN, hRk]; (repeat (refine anI ?_)); try (refine ⟨dcK, ?_⟩)) | ((first | refine itePos (by omega) ?_ | refine iteNeg (by omega) ?_); try simp [go_sem, ↓iO, iO, tN, hRk]) | (refine ⟨dcK, ?_⟩))
      first | rw [RetQ_ret] | rw [RetQ_normal]
      refine ⟨[], ?_⟩
      simp [go_sem, ↓iO, iO, tN, tg0, wkXs]
  · have hAk : A k = x.length := by omega
    by_cases h6 : k < 6
    · have hg := hnf k hok (.inr ⟨hAk, .inl h6⟩)
      subst hg
      rw [if_neg (by simp)] at hr
      obtain ⟨rfl, rfl⟩ := Prod.mk.inj hr
      repeat (first | (refine nf1_sound rfl ?_; simp [go_sem, ↓iO, iO, tN, hwk]; (repeat (refine anI ?_)); try (refine ⟨dcK, ?_⟩)) | ((first | refine itePos (by omega) ?_ | refine iteNeg (by omega) ?_); try simp [go_sem, ↓iO, iO, tN, hwk]) | (refine ⟨dcK, ?_⟩))
      first | rw [RetQ_ret] | rw [RetQ_normal]
      refine ⟨[], ?_⟩
      simp [go_sem, ↓iO, iO, tN, tg0, wkXs]
    · have w0 := hwg k 0 (by omega)
      have w1 := hwg k 1 (by omega)
      have w2 := hwg k 2 (by omega)
      have w3 := hwg k 3 (by omega)
      have w4 := hwg k 4 (by omega)
      have w5 := hwg k 5 (by omega)
      by_cases h5 : V 5 ≠ (k : Int) - 6
      · have hg := hnf k hok (.inr ⟨hAk, .inr (.inl h5)⟩)
        subst hg
        rw [if_neg (by simp)] at hr
        obtain ⟨rfl, rfl⟩ := Prod.mk.inj hr
        repeat (first | (refine nf1_sound rfl ?_; simp [go_sem, ↓iO, iO, tN, hwk, w5, h5]; (repeat (refine anI ?_)); try (refine ⟨dcK, ?_⟩)) | ((first | refine itePos (by omega) ?_ | refine iteNeg (by omega) ?_); try simp [go_sem, ↓iO, iO, tN, hwk, w5, h5]) | (refine ⟨dcK, ?_⟩))
        first | rw [RetQ_ret] | rw [RetQ_normal]
        refine ⟨[], ?_⟩
        simp [go_sem, ↓iO, iO, tN, tg0, wkXs]
      · have h5' : V 5 = (k : Int) - 6 := by omega
        have htk := htl k (by omega) h5'
        subst htk
        obtain ⟨D, hD⟩ : ∃ D, (W k).drop 6 = D := ⟨_, rfl⟩
        have hDl : D.length = k - 6 := by rw [← hD, List.length_drop, hwk]
        have hDm : (List.drop 6 ((W k).map encI)) = D.map encI := by rw [← hD, List.map_drop]
        have hDt : List.take k ((W k).map encI) = (W k).map encI := List.take_of_length_le (by simp [hwk])
        rw [hD] at hnf hyf
        by_cases hT : TgOk ⟨V 0, V 1, V 2, V 3, V 4, D⟩
        · have hg := hyf k hok hAk (by omega) h5' hT
          obtain ⟨rfl, rfl⟩ := Prod.mk.inj hg
          rw [if_pos rfl] at hr
          obtain ⟨rfl, rfl⟩ := Prod.mk.inj hr
          have cv := rvalid_fn ⟨V 0, V 1, V 2, V 3, V 4, D⟩ (by dsimp only; omega) true (decide_eq_true hT)
          refine nf_sound [17] _ _ _ ?_
          simp (maxSteps := 2000000) [go_sem, ↓iO, iO, tN, go_sem, stops, firstReg]
          refine CW.weak (ρ := [(502, some 502)]) (σ' := ⟨[(2, .pt 502 [] 0), (3, .t (.int 0)), (6, .t (encIs (W k)))], [(502, .box 38 (.t (.agg [.int 0, .int 0, .int 0, .int 0, .int 0, .nil])))]⟩) ?_ ?_
          · simp [go_sem, ↓iO, iO, tN]
          repeat (first | (refine nf1_sound rfl ?_; simp [go_sem, ↓iO, iO, tN, hwk, w0, w1, w2, w3, w4, w5, h5', hDm, hDt]; (repeat (refine anI ?_)); try (refine ⟨dcK, ?_⟩)) | ((first | refine itePos (by omega) ?_ | refine iteNeg (by omega) ?_); try simp [go_sem, ↓iO, iO, tN, hwk, w0, w1, w2, w3, w4, w5, h5', hDm, hDt]) | (refine ⟨dcK, ?_⟩))
          refine CallK.fn (cv) [] [] [] (by kernel_rfl) ?_ ?_ ?_ (Or.inl rfl) ?_ <;> simp [go_sem, ↓iO, iO, tN, hDm, hDt]
          repeat (refine anI ?_)
          try (refine ⟨dcK, ?_⟩)
          repeat (first | (refine nf1_sound rfl ?_; simp [go_sem, ↓iO, iO, tN]; (repeat (refine anI ?_)); try (refine ⟨dcK, ?_⟩)) | ((first | refine itePos (by omega) ?_ | refine iteNeg (by omega) ?_); try simp [go_sem, ↓iO, iO, tN]) | (refine ⟨dcK, ?_⟩))
          first | rw [RetQ_ret] | rw [RetQ_normal]
          refine ⟨[], ?_⟩
          simp [go_sem, ↓iO, iO, tN, wkXs]
        · have hg := hnf k hok (.inr ⟨hAk, .inr (.inr hT)⟩)
          subst hg
          rw [if_neg (by simp)] at hr
          obtain ⟨rfl, rfl⟩ := Prod.mk.inj hr
          have cv := rvalid_fn ⟨V 0, V 1, V 2, V 3, V 4, D⟩ (by dsimp only; omega) false (decide_eq_false hT)
          refine nf_sound [17] _ _ _ ?_
          simp (maxSteps := 2000000) [go_sem, ↓iO, iO, tN, go_sem, stops, firstReg]
          refine CW.weak (ρ := [(502, some 502)]) (σ' := ⟨[(2, .pt 502 [] 0), (3, .t (.int 0)), (6, .t (encIs (W k)))], [(502, .box 38 (.t (.agg [.int 0, .int 0, .int 0, .int 0, .int 0, .nil])))]⟩) ?_ ?_
          · simp [go_sem, ↓iO, iO, tN]
          repeat (first | (refine nf1_sound rfl ?_; simp [go_sem, ↓iO, iO, tN, hwk, w0, w1, w2, w3, w4, w5, h5', hDm, hDt]; (repeat (refine anI ?_)); try (refine ⟨dcK, ?_⟩)) | ((first | refine itePos (by omega) ?_ | refine iteNeg (by omega) ?_); try simp [go_sem, ↓iO, iO, tN, hwk, w0, w1, w2, w3, w4, w5, h5', hDm, hDt]) | (refine ⟨dcK, ?_⟩))
          refine CallK.fn (cv) [] [] [] (by kernel_rfl) ?_ ?_ ?_ (Or.inl rfl) ?_ <;> simp [go_sem, ↓iO, iO, tN, hDm, hDt]
          repeat (refine anI ?_)
          try (refine ⟨dcK, ?_⟩)
          repeat (first | (refine nf1_sound rfl ?_; simp [go_sem, ↓iO, iO, tN]; (repeat (refine anI ?_)); try (refine ⟨dcK, ?_⟩)) | ((first | refine itePos (by omega) ?_ | refine iteNeg (by omega) ?_); try simp [go_sem, ↓iO, iO, tN]) | (refine ⟨dcK, ?_⟩))
          first | rw [RetQ_ret] | rw [RetQ_normal]
          refine ⟨[], ?_⟩
          simp [go_sem, ↓iO, iO, tN, tg0, wkXs]
end Go.Proofs.Ytopmmodcaoaaeaa
