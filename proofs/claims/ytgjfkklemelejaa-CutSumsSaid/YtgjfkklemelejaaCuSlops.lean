/- cut.slops as a contract. No condition. -/
import Derived.Test.YtgjfkklemelejaaCuP
namespace Go.Proofs.Ytgjfkklemelejaa
open Go.RowKit Sy
set_option linter.unusedVariables false
set_option linter.unusedSimpArgs false
def bef (f r : Int) (t : List Int) : List Int := t.map fun x => (slopAt f r x).1 / 2
def beh (f r : Int) (t : List Int) : List Int := t.map fun x => (slopAt f r x).1 - (slopAt f r x).1 / 2
theorem bef_snoc {f r : Int} {t : List Int} {k : Nat} {x : Int} (h : t[k]? = some x) : bef f r (t.take (k + 1)) = bef f r (t.take k) ++ [(slopAt f r x).1 / 2] := by
  unfold bef; rw [take_snoc h]; simp
theorem beh_snoc {f r : Int} {t : List Int} {k : Nat} {x : Int} (h : t[k]? = some x) : beh f r (t.take (k + 1)) = beh f r (t.take k) ++ [(slopAt f r x).1 - (slopAt f r x).1 / 2] := by
  unfold beh; rw [take_snoc h]; simp
theorem bef_len (f r : Int) (t : List Int) : (bef f r t).length = t.length := by simp [bef]
theorem beh_len (f r : Int) (t : List Int) : (beh f r t).length = t.length := by simp [beh]
theorem slopAt_no {f r t m e : Int} (h : mixV f t = (m, e)) (he : e ≠ 0) : slopAt f r t = (0, e) := by unfold slopAt; rw [h]; simp [he]
theorem slopAt_yes {f r t m : Int} {a b c d : Int} (h : mixV f t = (m, 0)) (hc : cutV m r = (a, b, c, d)) : slopAt f r t = (c, d) := by unfold slopAt; rw [h]; simp [hc]
set_option maxRecDepth 100000 in
set_option maxHeartbeats 8000000 in
theorem slops_fn (t : List Int) (f r : Int) (hl : t.length ≤ 1000000) (e : Int) (he : errGo (slopAt f r) t = e) : FnOk Try.prog 35 [.t (encIs t), .t (.int f), .t (.int r)] [] (.tup [.own 1000, .own 1001, .t (.int e)])
    [(1000, blkI (if e = 0 then bef f r t else [])), (1001, blkI (if e = 0 then beh f r t else []))] := by
  have hsn := fun k x (h : t[k]? = some x) => bef_snoc (f := f) (r := r) h
  have hsn2 := fun k x (h : t[k]? = some x) => beh_snoc (f := f) (r := r) h
  have hln := fun k => bef_len f r (t.take k)
  have hln2 := fun k => beh_len f r (t.take k)
  have hA : bef f r (t.take t.length) = bef f r t := by rw [List.take_length]
  have hB : beh f r (t.take t.length) = beh f r t := by rw [List.take_length]
  have hA0 : bef f r (t.take 0) = [] := rfl
  have hB0 : beh f r (t.take 0) = [] := rfl
  obtain ⟨A, hAA⟩ : ∃ A : Nat → List Int, (fun k => bef f r (t.take k)) = A := ⟨_, rfl⟩
  obtain ⟨B, hBB⟩ : ∃ A : Nat → List Int, (fun k => beh f r (t.take k)) = A := ⟨_, rfl⟩
  simp only [show ∀ k, bef f r (t.take k) = A k from fun k => by rw [← hAA]] at hsn hln hA hA0
  simp only [show ∀ k, beh f r (t.take k) = B k from fun k => by rw [← hBB]] at hsn2 hln2 hB hB0
  rw [← hA, ← hB]
  clear hAA hBB
  refine FnOk.intro fact_mixed Try.func35 rfl Try.ntmps35 (by rfl) (by simp) ?_
  repeat (first | (refine nf1_sound rfl ?_; simp [go_sem, ↓IntWalk.iteOmega, IntWalk.iteOmega, IntWalk.toNatUp]; (repeat (refine And.intro (by omega) ?_)); try (refine ⟨DrawChk_of (by kernel_rfl), ?_⟩)) | (refine itePos (by omega) ?_; try simp [go_sem, ↓IntWalk.iteOmega, IntWalk.iteOmega, IntWalk.toNatUp]) | (refine iteNeg (by omega) ?_; try simp [go_sem, ↓IntWalk.iteOmega, IntWalk.iteOmega, IntWalk.toNatUp]) | (refine ⟨DrawChk_of (by kernel_rfl), ?_⟩))
  refine nf1_sound' _ _ _ ?_; simp only [nf1]
  refine CW.loop (ι := Nat) (fun k => ⟨[(1, .t (.int f)), (2, .t (.int r)), (6, .own 506), (7, .own 507), (16, .t (encIs t)), (17, .t (.int t.length)), (18, .t (.int k))], [(506, blkI (A k)), (507, blkI (B k))]⟩) (fun k => k ≤ t.length ∧ ∀ s ∈ t.take k, (slopAt f r s).2 = 0) (fun k => t.length - k) 0 [(506, none), (507, none)] ⟨by omega, by simp⟩ ?_ ?_
  · simp [go_sem, ↓IntWalk.iteOmega, IntWalk.iteOmega, IntWalk.toNatUp, hA0, hB0]
  rintro k ⟨hk, hok⟩
  have hlk := hln k
  have hlk2 := hln2 k
  rw [List.length_take] at hlk hlk2
  by_cases hb : k < t.length
  · obtain ⟨x, hx⟩ := has_get hb
    obtain ⟨m, d, hm⟩ : ∃ m d, mixV f x = (m, d) := ⟨_, _, rfl⟩
    have c1 := mix_fn f x m d hm
    have herr : (slopAt f r x).2 ≠ 0 → e = (slopAt f r x).2 := by
      intro hne
      rcases err_cases (slopAt f r) t with ⟨h1, h2⟩ | ⟨j, y, h1, h2, h3, h4⟩
      · exact absurd (h2 x (mem_get hx)) hne
      · have hjk : j = k := by
          rcases Nat.lt_trichotomy j k with h | h | h
          · exact absurd (hok y (List.mem_iff_getElem?.2 ⟨j, by rw [List.getElem?_take, if_pos h]; exact h1⟩)) h3
          · exact h
          · exact absurd (h2 x (List.mem_iff_getElem?.2 ⟨k, by rw [List.getElem?_take, if_pos h]; exact hx⟩)) hne
        subst hjk
        rw [hx] at h1
        obtain rfl := Option.some.inj h1
        rw [← he, h4]
    by_cases hd : d = 0
    · subst hd
      obtain ⟨u1, u2, u3, u4, hc⟩ : ∃ u1 u2 u3 u4, cutV m r = (u1, u2, u3, u4) := ⟨_, _, _, _, rfl⟩
      have c2 := cut_fn m r _ _ _ _ hc
      have hs := slopAt_yes hm hc
      have hr := slopAt_range f r x
      rw [hs] at hr herr
      have e1 := hsn k x hx
      have e2 := hsn2 k x hx
      rw [hs] at e1 e2
      dsimp only at hr herr e1 e2
      by_cases h4 : u4 = 0
      · repeat (first | (refine nf1_sound rfl ?_; simp [go_sem, ↓IntWalk.iteOmega, IntWalk.iteOmega, IntWalk.toNatUp, hx]; (repeat (refine And.intro (by omega) ?_)); try (refine ⟨DrawChk_of (by kernel_rfl), ?_⟩)) | (refine itePos (by omega) ?_; try simp [go_sem, ↓IntWalk.iteOmega, IntWalk.iteOmega, IntWalk.toNatUp, hx]) | (refine iteNeg (by omega) ?_; try simp [go_sem, ↓IntWalk.iteOmega, IntWalk.iteOmega, IntWalk.toNatUp, hx]) | (refine ⟨DrawChk_of (by kernel_rfl), ?_⟩))
        refine CallK.fn (c1) [] [] [] (by kernel_rfl) (by simp [go_sem, ↓IntWalk.iteOmega, IntWalk.iteOmega, IntWalk.toNatUp]) (by simp [go_sem, ↓IntWalk.iteOmega, IntWalk.iteOmega, IntWalk.toNatUp]) (by simp [go_sem, ↓IntWalk.iteOmega, IntWalk.iteOmega, IntWalk.toNatUp]) (Or.inl rfl) ?_
        simp [go_sem, ↓IntWalk.iteOmega, IntWalk.iteOmega, IntWalk.toNatUp]
        repeat (refine And.intro (by omega) ?_)
        try (refine ⟨DrawChk_of (by kernel_rfl), ?_⟩)
        repeat (first | (refine nf1_sound rfl ?_; simp [go_sem, ↓IntWalk.iteOmega, IntWalk.iteOmega, IntWalk.toNatUp]; (repeat (refine And.intro (by omega) ?_)); try (refine ⟨DrawChk_of (by kernel_rfl), ?_⟩)) | (refine itePos (by omega) ?_; try simp [go_sem, ↓IntWalk.iteOmega, IntWalk.iteOmega, IntWalk.toNatUp]) | (refine iteNeg (by omega) ?_; try simp [go_sem, ↓IntWalk.iteOmega, IntWalk.iteOmega, IntWalk.toNatUp]) | (refine ⟨DrawChk_of (by kernel_rfl), ?_⟩))
        refine CallK.fn (c2) [] [] [] (by kernel_rfl) (by simp [go_sem, ↓IntWalk.iteOmega, IntWalk.iteOmega, IntWalk.toNatUp]) (by simp [go_sem, ↓IntWalk.iteOmega, IntWalk.iteOmega, IntWalk.toNatUp]) (by simp [go_sem, ↓IntWalk.iteOmega, IntWalk.iteOmega, IntWalk.toNatUp]) (Or.inl rfl) ?_
        simp [go_sem, ↓IntWalk.iteOmega, IntWalk.iteOmega, IntWalk.toNatUp]
        repeat (refine And.intro (by omega) ?_)
        try (refine ⟨DrawChk_of (by kernel_rfl), ?_⟩)
        repeat (first | (refine nf1_sound rfl ?_; simp [go_sem, ↓IntWalk.iteOmega, IntWalk.iteOmega, IntWalk.toNatUp, h4]; (repeat (refine And.intro (by omega) ?_)); try (refine ⟨DrawChk_of (by kernel_rfl), ?_⟩)) | (refine itePos (by omega) ?_; try simp [go_sem, ↓IntWalk.iteOmega, IntWalk.iteOmega, IntWalk.toNatUp, h4]) | (refine iteNeg (by omega) ?_; try simp [go_sem, ↓IntWalk.iteOmega, IntWalk.iteOmega, IntWalk.toNatUp, h4]) | (refine ⟨DrawChk_of (by kernel_rfl), ?_⟩))
        rw [RoundQ_normal]; refine ⟨k + 1, [(506, some 146), (507, some 153)], ?_, ?_, ?_⟩
        · refine ⟨by omega, ?_⟩
          rw [take_snoc hx]
          intro s hsm
          rcases List.mem_append.1 hsm with hsm | hsm
          · exact hok s hsm
          · simp only [List.mem_singleton] at hsm
            subst hsm
            rw [hs]; exact h4
        · omega
        simp [go_sem, ↓IntWalk.iteOmega, IntWalk.iteOmega, IntWalk.toNatUp, e1, e2]
      · have := herr h4
        subst this
        repeat (first | (refine nf1_sound rfl ?_; simp [go_sem, ↓IntWalk.iteOmega, IntWalk.iteOmega, IntWalk.toNatUp, hx]; (repeat (refine And.intro (by omega) ?_)); try (refine ⟨DrawChk_of (by kernel_rfl), ?_⟩)) | (refine itePos (by omega) ?_; try simp [go_sem, ↓IntWalk.iteOmega, IntWalk.iteOmega, IntWalk.toNatUp, hx]) | (refine iteNeg (by omega) ?_; try simp [go_sem, ↓IntWalk.iteOmega, IntWalk.iteOmega, IntWalk.toNatUp, hx]) | (refine ⟨DrawChk_of (by kernel_rfl), ?_⟩))
        refine CallK.fn (c1) [] [] [] (by kernel_rfl) (by simp [go_sem, ↓IntWalk.iteOmega, IntWalk.iteOmega, IntWalk.toNatUp]) (by simp [go_sem, ↓IntWalk.iteOmega, IntWalk.iteOmega, IntWalk.toNatUp]) (by simp [go_sem, ↓IntWalk.iteOmega, IntWalk.iteOmega, IntWalk.toNatUp]) (Or.inl rfl) ?_
        simp [go_sem, ↓IntWalk.iteOmega, IntWalk.iteOmega, IntWalk.toNatUp]
        repeat (refine And.intro (by omega) ?_)
        try (refine ⟨DrawChk_of (by kernel_rfl), ?_⟩)
        repeat (first | (refine nf1_sound rfl ?_; simp [go_sem, ↓IntWalk.iteOmega, IntWalk.iteOmega, IntWalk.toNatUp]; (repeat (refine And.intro (by omega) ?_)); try (refine ⟨DrawChk_of (by kernel_rfl), ?_⟩)) | (refine itePos (by omega) ?_; try simp [go_sem, ↓IntWalk.iteOmega, IntWalk.iteOmega, IntWalk.toNatUp]) | (refine iteNeg (by omega) ?_; try simp [go_sem, ↓IntWalk.iteOmega, IntWalk.iteOmega, IntWalk.toNatUp]) | (refine ⟨DrawChk_of (by kernel_rfl), ?_⟩))
        refine CallK.fn (c2) [] [] [] (by kernel_rfl) (by simp [go_sem, ↓IntWalk.iteOmega, IntWalk.iteOmega, IntWalk.toNatUp]) (by simp [go_sem, ↓IntWalk.iteOmega, IntWalk.iteOmega, IntWalk.toNatUp]) (by simp [go_sem, ↓IntWalk.iteOmega, IntWalk.iteOmega, IntWalk.toNatUp]) (Or.inl rfl) ?_
        simp [go_sem, ↓IntWalk.iteOmega, IntWalk.iteOmega, IntWalk.toNatUp]
        repeat (refine And.intro (by omega) ?_)
        try (refine ⟨DrawChk_of (by kernel_rfl), ?_⟩)
        repeat (first | (refine nf1_sound rfl ?_; simp [go_sem, ↓IntWalk.iteOmega, IntWalk.iteOmega, IntWalk.toNatUp, h4]; (repeat (refine And.intro (by omega) ?_)); try (refine ⟨DrawChk_of (by kernel_rfl), ?_⟩)) | (refine itePos (by omega) ?_; try simp [go_sem, ↓IntWalk.iteOmega, IntWalk.iteOmega, IntWalk.toNatUp, h4]) | (refine iteNeg (by omega) ?_; try simp [go_sem, ↓IntWalk.iteOmega, IntWalk.iteOmega, IntWalk.toNatUp, h4]) | (refine ⟨DrawChk_of (by kernel_rfl), ?_⟩))
        first | rw [RetQ_ret] | rw [RetQ_normal]
        refine ⟨[(1000, none), (1001, none)], ?_⟩
        simp [go_sem, ↓IntWalk.iteOmega, IntWalk.iteOmega, IntWalk.toNatUp, h4]
    · have hs := slopAt_no (r := r) hm hd
      rw [hs] at herr
      have := herr hd
      dsimp only at this
      subst this
      repeat (first | (refine nf1_sound rfl ?_; simp [go_sem, ↓IntWalk.iteOmega, IntWalk.iteOmega, IntWalk.toNatUp, hx]; (repeat (refine And.intro (by omega) ?_)); try (refine ⟨DrawChk_of (by kernel_rfl), ?_⟩)) | (refine itePos (by omega) ?_; try simp [go_sem, ↓IntWalk.iteOmega, IntWalk.iteOmega, IntWalk.toNatUp, hx]) | (refine iteNeg (by omega) ?_; try simp [go_sem, ↓IntWalk.iteOmega, IntWalk.iteOmega, IntWalk.toNatUp, hx]) | (refine ⟨DrawChk_of (by kernel_rfl), ?_⟩))
      refine CallK.fn (c1) [] [] [] (by kernel_rfl) (by simp [go_sem, ↓IntWalk.iteOmega, IntWalk.iteOmega, IntWalk.toNatUp]) (by simp [go_sem, ↓IntWalk.iteOmega, IntWalk.iteOmega, IntWalk.toNatUp]) (by simp [go_sem, ↓IntWalk.iteOmega, IntWalk.iteOmega, IntWalk.toNatUp]) (Or.inl rfl) ?_
      simp [go_sem, ↓IntWalk.iteOmega, IntWalk.iteOmega, IntWalk.toNatUp]
      repeat (refine And.intro (by omega) ?_)
      try (refine ⟨DrawChk_of (by kernel_rfl), ?_⟩)
      repeat (first | (refine nf1_sound rfl ?_; simp [go_sem, ↓IntWalk.iteOmega, IntWalk.iteOmega, IntWalk.toNatUp, hd]; (repeat (refine And.intro (by omega) ?_)); try (refine ⟨DrawChk_of (by kernel_rfl), ?_⟩)) | (refine itePos (by omega) ?_; try simp [go_sem, ↓IntWalk.iteOmega, IntWalk.iteOmega, IntWalk.toNatUp, hd]) | (refine iteNeg (by omega) ?_; try simp [go_sem, ↓IntWalk.iteOmega, IntWalk.iteOmega, IntWalk.toNatUp, hd]) | (refine ⟨DrawChk_of (by kernel_rfl), ?_⟩))
      first | rw [RetQ_ret] | rw [RetQ_normal]
      refine ⟨[(1000, none), (1001, none)], ?_⟩
      simp [go_sem, ↓IntWalk.iteOmega, IntWalk.iteOmega, IntWalk.toNatUp, hd]
  · obtain rfl : k = t.length := by omega
    have : e = 0 := by
      rw [← he]
      rw [List.take_length] at hok
      rcases err_cases (slopAt f r) t with ⟨h1, h2⟩ | ⟨j, y, h1, h2, h3, h4⟩
      · exact h1
      · exact absurd (hok y (mem_get h1)) h3
    repeat (first | (refine nf1_sound rfl ?_; simp [go_sem, ↓IntWalk.iteOmega, IntWalk.iteOmega, IntWalk.toNatUp]; (repeat (refine And.intro (by omega) ?_)); try (refine ⟨DrawChk_of (by kernel_rfl), ?_⟩)) | (refine itePos (by omega) ?_; try simp [go_sem, ↓IntWalk.iteOmega, IntWalk.iteOmega, IntWalk.toNatUp]) | (refine iteNeg (by omega) ?_; try simp [go_sem, ↓IntWalk.iteOmega, IntWalk.iteOmega, IntWalk.toNatUp]) | (refine ⟨DrawChk_of (by kernel_rfl), ?_⟩))
    first | rw [RetQ_ret] | rw [RetQ_normal]
    refine ⟨[(1000, some 506), (1001, some 507)], ?_⟩
    simp [go_sem, ↓IntWalk.iteOmega, IntWalk.iteOmega, IntWalk.toNatUp, this]
end Go.Proofs.Ytgjfkklemelejaa
