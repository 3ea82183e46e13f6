/- intake.release. No condition. intake.take of an older telegram and of one that is held. No condition. intake.take of a telegram that is new. No condition. intake.take and intake.accept. No condition. intake.accept of a station that is not known. No condition. intake.copied. No condition. Accept. No condition. -/
import Derived.Test.YtopmmodcaoaaeaaInL
import Derived.Test.YtopmmodcaoaaeaaInE
namespace Go.Proofs.Ytopmmodcaoaaeaa
open Go.RowKit Sy
open Go.IntWalk renaming iteOmega → iO, toNatUp → tN
set_option linter.unusedVariables false
set_option linter.unusedSimpArgs false
set_option maxRecDepth 100000 in
set_option maxHeartbeats 8000000 in
theorem release_fn (us : List U) (p : Nat) (w : Wt) (hu : us[p]? = some (uWt w)) (hw : w.held.length ≤ 1000000) (hn0 : 0 ≤ w.nx) (hn1 : w.nx ≤ 1000000000000) :
    FnOk Try.prog 86 [.pt 1 [p] (p * 4)] [(1, .rows 47 4 us [])] (.own 1000) [(1, .rows 47 4 (us.set p (uWt (gvW w))) []), (1000, blkTgs (gvL w))] := by
  obtain ⟨st, ep, nx, l⟩ := w
  unfold gvW gvL
  dsimp only at *
  obtain ⟨n, hn⟩ : ∃ n, giveN nx l = n := ⟨_, rfl⟩
  have hnl := giveN_le nx l
  have hlt : ∀ k, k < n → ∃ t, l[k]? = some t ∧ t.sq = nx + k := fun k hk => giveN_lt nx l (by omega)
  have hend : ∀ t, l[n]? = some t → t.sq ≠ nx + n := fun t ht => by subst hn; exact giveN_end nx l ht
  rw [hn] at hnl ⊢
  clear hn
  unfold uWt at hu
  dsimp only at hu
  refine FnOk.intro fact_mixed Try.func86 rfl Try.ntmps86 (by rfl) (by simp) ?_
  refine CW.openRow 1 p 555 (us := us) (ex := []) (u := .fw [.int st, .int ep, .int nx] 38 6 (l.map encTg)) (b := .list 38 6 (l.map encTg)) (by rfl) hu (by rfl) (by rfl) (by kernel_rfl) (by omega) ?_
  simp [go_sem, ↓iO, iO, tN]
  refine CW.weak (ρ := [(1, some 1)]) (σ' := ⟨[(0, .pt 1 [p] (p * 4))], [(1, .rows 47 4 us [(p, .ag [.t (.int st), .t (.int ep), .t (.int nx), .t (encTgs l)])])]⟩) ?_ ?_
  · simp [go_sem, ↓iO, iO, tN]
  repeat (first | (refine nf1_sound rfl ?_; simp [go_sem, ↓iO, iO, tN, hu]; (repeat (refine anI ?_)); try (refine ⟨dcK, ?_⟩)) | ((first | refine itePos (by omega) ?_ | refine iteNeg (by omega) ?_); try simp [go_sem, ↓iO, iO, tN, hu]) | (refine ⟨dcK, ?_⟩))
  refine nf1_sound' _ _ _ ?_; simp only [nf1]
  refine CW.loop (ι := Nat) (fun k => ⟨[(0, .pt 1 [p] (p * 4)), (3, .t (.int k))], [(1, .rows 47 4 us [(p, .ag [.t (.int st), .t (.int ep), .t (.int (nx + k)), .t (encTgs l)])])]⟩) (fun k => k ≤ n) (fun k => n - k) 0 [(1, some 1)] (by omega) ?_ ?_
  · simp [go_sem, ↓iO, iO, tN]
  intro k hk
  by_cases hkn : k < n
  · obtain ⟨t, ht, hs⟩ := hlt k hkn
    repeat (first | (refine nf1_sound rfl ?_; simp [go_sem, ↓iO, iO, tN, hu, ht, hs]; (repeat (refine anI ?_)); try (refine ⟨dcK, ?_⟩)) | ((first | refine itePos (by omega) ?_ | refine iteNeg (by omega) ?_); try simp [go_sem, ↓iO, iO, tN, hu, ht, hs]) | (refine ⟨dcK, ?_⟩))
    rw [RoundQ_normal]; refine ⟨k + 1, [(1, some 1)], ?_, ?_, ?_⟩
    · omega
    · omega
    simp [go_sem, ↓iO, iO, tN]
    omega
  · obtain rfl : k = n := by omega
    have hct := cloneT_fn (l.take k) (by simp; omega)
    have hcd := cloneT_fn (l.drop k) (by simp; omega)
    have htk : List.take l.length (l.map encTg) = l.map encTg := List.take_of_length_le (by simp)
    by_cases hl : k < l.length
    · obtain ⟨t, ht⟩ := has_get hl
      have hs := hend t ht
      repeat (first | (refine nf1_sound rfl ?_; simp [go_sem, ↓iO, iO, tN, hu, ht, hs]; (repeat (refine anI ?_)); try (refine ⟨dcK, ?_⟩)) | ((first | refine itePos (by omega) ?_ | refine iteNeg (by omega) ?_); try simp [go_sem, ↓iO, iO, tN, hu, ht, hs]) | (refine ⟨dcK, ?_⟩))
      refine CallK.fn (hct) [(1000, 600)] [] [] (by kernel_rfl) ?_ ?_ ?_ (Or.inl rfl) ?_ <;> simp [go_sem, ↓iO, iO, tN, hu, htk]
      repeat (refine anI ?_)
      try (refine ⟨dcK, ?_⟩)
      repeat (first | (refine nf1_sound rfl ?_; simp [go_sem, ↓iO, iO, tN, hu]; (repeat (refine anI ?_)); try (refine ⟨dcK, ?_⟩)) | ((first | refine itePos (by omega) ?_ | refine iteNeg (by omega) ?_); try simp [go_sem, ↓iO, iO, tN, hu]) | (refine ⟨dcK, ?_⟩))
      refine CallK.fn (hcd) [(1000, 601)] [] [] (by kernel_rfl) ?_ ?_ ?_ (Or.inl rfl) ?_ <;> simp [go_sem, ↓iO, iO, tN, hu, htk]
      repeat (refine anI ?_)
      try (refine ⟨dcK, ?_⟩)
      refine nf_sound [7] _ _ _ ?_
      simp (maxSteps := 2000000) [go_sem, ↓iO, iO, tN, hu, stops, firstReg]
      refine CW.closeRow 1 p 601 (.fw [.int st, .int ep, .int (nx + k)] 38 6 ((l.drop k).map encTg)) (us := us) (e := 47) (s := 4) (e' := 38) (s' := 6) (xs := (l.drop k).map encTg) (ex := [(p, .ag [.t (.int st), .t (.int ep), .t (.int (nx + k)), .own 601])]) (by simp [go_sem]) (by simp [go_sem]) (by simp [go_sem]) (by rfl) ?_
      simp [go_sem, ↓iO, iO, tN]
      repeat (first | (refine nf1_sound rfl ?_; simp [go_sem, ↓iO, iO, tN]; (repeat (refine anI ?_)); try (refine ⟨dcK, ?_⟩)) | ((first | refine itePos (by omega) ?_ | refine iteNeg (by omega) ?_); try simp [go_sem, ↓iO, iO, tN]) | (refine ⟨dcK, ?_⟩))
      first | rw [RetQ_ret] | rw [RetQ_normal]
      refine ⟨[(1, some 1), (1000, some 600)], ?_⟩
      simp [go_sem, ↓iO, iO, tN, uWt]
    · obtain rfl : k = l.length := by omega
      repeat (first | (refine nf1_sound rfl ?_; simp [go_sem, ↓iO, iO, tN, hu]; (repeat (refine anI ?_)); try (refine ⟨dcK, ?_⟩)) | ((first | refine itePos (by omega) ?_ | refine iteNeg (by omega) ?_); try simp [go_sem, ↓iO, iO, tN, hu]) | (refine ⟨dcK, ?_⟩))
      refine CallK.fn (hct) [(1000, 600)] [] [] (by kernel_rfl) ?_ ?_ ?_ (Or.inl rfl) ?_ <;> simp [go_sem, ↓iO, iO, tN, hu, htk]
      repeat (refine anI ?_)
      try (refine ⟨dcK, ?_⟩)
      repeat (first | (refine nf1_sound rfl ?_; simp [go_sem, ↓iO, iO, tN, hu]; (repeat (refine anI ?_)); try (refine ⟨dcK, ?_⟩)) | ((first | refine itePos (by omega) ?_ | refine iteNeg (by omega) ?_); try simp [go_sem, ↓iO, iO, tN, hu]) | (refine ⟨dcK, ?_⟩))
      refine CallK.fn (hcd) [(1000, 601)] [] [] (by kernel_rfl) ?_ ?_ ?_ (Or.inl rfl) ?_ <;> simp [go_sem, ↓iO, iO, tN, hu, htk]
      repeat (refine anI ?_)
      try (refine ⟨dcK, ?_⟩)
      refine nf_sound [7] _ _ _ ?_
      simp (maxSteps := 2000000) [go_sem, ↓iO, iO, tN, hu, stops, firstReg]
      refine CW.closeRow 1 p 601 (.fw [.int st, .int ep, .int (nx + l.length)] 38 6 ((l.drop l.length).map encTg)) (us := us) (e := 47) (s := 4) (e' := 38) (s' := 6) (xs := (l.drop l.length).map encTg) (ex := [(p, .ag [.t (.int st), .t (.int ep), .t (.int (nx + l.length)), .own 601])]) (by simp [go_sem]) (by simp [go_sem]) (by simp [go_sem]) (by rfl) ?_
      simp [go_sem, ↓iO, iO, tN]
      repeat (first | (refine nf1_sound rfl ?_; simp [go_sem, ↓iO, iO, tN]; (repeat (refine anI ?_)); try (refine ⟨dcK, ?_⟩)) | ((first | refine itePos (by omega) ?_ | refine iteNeg (by omega) ?_); try simp [go_sem, ↓iO, iO, tN]) | (refine ⟨dcK, ?_⟩))
      first | rw [RetQ_ret] | rw [RetQ_normal]
      refine ⟨[(1, some 1), (1000, some 600)], ?_⟩
      simp [go_sem, ↓iO, iO, tN, uWt]
end Go.Proofs.Ytopmmodcaoaaeaa
namespace Go.Proofs.Ytopmmodcaoaaeaa
open Go.RowKit Sy
open Go.IntWalk renaming iteOmega → iO, toNatUp → tN
set_option linter.unusedVariables false
set_option linter.unusedSimpArgs false
theorem set_same {us : List U} {p : Nat} {u : U} (h : us[p]? = some u) : us.set p u = us := by
  apply List.ext_getElem?
  intro i
  rw [List.getElem?_set]
  split
  · rename_i e
    subst e
    have := (List.getElem?_eq_some_iff.1 h).1
    rw [if_pos this, h]
  · rfl
set_option maxRecDepth 100000 in
set_option maxHeartbeats 8000000 in
theorem takeA_fn (us : List U) (p : Nat) (w : Wt) (t : Tg) (win : Int) (hu : us[p]? = some (uWt w)) (hw : w.held.length ≤ 1000) (ha : Asc (keys w.held)) (ho : t.ep < w.ep ∨ t.ep = w.ep ∧ (t.sq < w.nx ∨ (keys w.held)[lb t.sq (keys w.held)]? = some t.sq)) :
    FnOk Try.prog 60 [.pt 1 [p] (p * 4), .t (.int win), .t (encTg t)] [(1, .rows 47 4 us [])] (.t (encTgs [])) [(1, .rows 47 4 us [])] := by
  obtain ⟨g, hg⟩ : ∃ g, g = decide ((keys w.held)[lb t.sq (keys w.held)]? = some t.sq) := ⟨_, rfl⟩
  have hgt : (keys w.held)[lb t.sq (keys w.held)]? = some t.sq → g = true := fun h => by rw [hg]; exact decide_eq_true h
  have c := bsT_fn w.held t.sq (by omega) ha _ rfl g hg
  obtain ⟨n, hn⟩ : ∃ n, lb t.sq (w.held.map (·.sq)) = n := ⟨_, rfl⟩
  rw [hn] at c
  obtain ⟨st, ep, nx, l⟩ := w
  obtain ⟨t1, t2, t3, t4, t5, tv⟩ := t
  unfold uWt at hu
  dsimp only at *
  clear hn hg
  have hre : us.set p (.fw [.int st, .int ep, .int nx] 38 6 (l.map encTg)) = us := set_same hu
  have go : ∀ (hh : t2 < ep ∨ t2 = ep ∧ (t3 < nx ∨ g = true)), FnOk Try.prog 60 [.pt 1 [p] (p * 4), .t (.int win), .t (encTg ⟨t1, t2, t3, t4, t5, tv⟩)] [(1, .rows 47 4 us [])] (.t (encTgs [])) [(1, .rows 47 4 us [])] := by
    intro hh
    refine FnOk.intro fact_mixed Try.func60 rfl Try.ntmps60 (by rfl) (by simp) ?_
    refine CW.openRow 1 p 555 (us := us) (ex := []) (u := .fw [.int st, .int ep, .int nx] 38 6 (l.map encTg)) (b := .list 38 6 (l.map encTg)) (by rfl) hu (by rfl) (by rfl) (by kernel_rfl) (by omega) ?_
    simp [go_sem, ↓iO, iO, tN]
    repeat (first | (refine nf1_sound rfl ?_; simp [go_sem, ↓iO, iO, tN, hu]; (repeat (refine anI ?_)); try (refine ⟨dcK, ?_⟩)) | ((first | refine itePos (by omega) ?_ | refine iteNeg (by omega) ?_); try simp [go_sem, ↓iO, iO, tN, hu]) | (refine ⟨dcK, ?_⟩))
    refine CallK.fn (c) [] [555] [] (by kernel_rfl) ?_ ?_ ?_ (Or.inr ⟨?_, ?_⟩) ?_ <;> simp [go_sem, ↓iO, iO, tN, hu]
    repeat (refine anI ?_)
    try (refine ⟨dcK, ?_⟩)
    refine CW.closeRow 1 p 555 (.fw [.int st, .int ep, .int nx] 38 6 (l.map encTg)) (us := us) (e := 47) (s := 4) (e' := 38) (s' := 6) (xs := l.map encTg) (ex := [(p, .ag [.t (.int st), .t (.int ep), .t (.int nx), .own 555])]) (by simp [go_sem]) (by simp [go_sem]) (by simp [go_sem]) (by rfl) ?_
    simp [go_sem, ↓iO, iO, tN, hre]
    by_cases h1 : t2 < ep
    · repeat (first | (refine nf1_sound rfl ?_; simp [go_sem, ↓iO, iO, tN, hu, h1]; (repeat (refine anI ?_)); try (refine ⟨dcK, ?_⟩)) | ((first | refine itePos (by omega) ?_ | refine iteNeg (by omega) ?_); try simp [go_sem, ↓iO, iO, tN, hu, h1]) | (refine ⟨dcK, ?_⟩))
      first | rw [RetQ_ret] | rw [RetQ_normal]
      refine ⟨[(1, some 1)], ?_⟩
      simp [go_sem, ↓iO, iO, tN]
    · have h2 : t2 = ep := by omega
      subst h2
      by_cases h3 : t3 < nx
      · repeat (first | (refine nf1_sound rfl ?_; simp [go_sem, ↓iO, iO, tN, hu, h3]; (repeat (refine anI ?_)); try (refine ⟨dcK, ?_⟩)) | ((first | refine itePos (by omega) ?_ | refine iteNeg (by omega) ?_); try simp [go_sem, ↓iO, iO, tN, hu, h3]) | (refine ⟨dcK, ?_⟩))
        first | rw [RetQ_ret] | rw [RetQ_normal]
        refine ⟨[(1, some 1)], ?_⟩
        simp [go_sem, ↓iO, iO, tN]
      · have h4 : g = true := by rcases hh with h | ⟨_, h | h⟩ <;> first | omega | exact h
        subst h4
        repeat (first | (refine nf1_sound rfl ?_; simp [go_sem, ↓iO, iO, tN, hu, h3]; (repeat (refine anI ?_)); try (refine ⟨dcK, ?_⟩)) | ((first | refine itePos (by omega) ?_ | refine iteNeg (by omega) ?_); try simp [go_sem, ↓iO, iO, tN, hu, h3]) | (refine ⟨dcK, ?_⟩))
        first | rw [RetQ_ret] | rw [RetQ_normal]
        refine ⟨[(1, some 1)], ?_⟩
        simp [go_sem, ↓iO, iO, tN]
  rcases ho with h | ⟨h1, h2 | h2⟩
  · exact go (.inl h)
  · exact go (.inr ⟨h1, .inl h2⟩)
  · exact go (.inr ⟨h1, .inr (hgt h2)⟩)
end Go.Proofs.Ytopmmodcaoaaeaa
namespace Go.Proofs.Ytopmmodcaoaaeaa
open Go.RowKit Sy
open Go.IntWalk renaming iteOmega → iO, toNatUp → tN
set_option linter.unusedVariables false
set_option linter.unusedSimpArgs false
theorem gvW_held (w : Wt) : ∀ x ∈ (gvW w).held, x ∈ w.held := fun x hx => List.mem_of_mem_drop hx
theorem gvL_len (w : Wt) : (gvL w).length + (gvW w).held.length = w.held.length := by
  unfold gvL gvW
  simp only [List.length_take, List.length_drop]
  omega
set_option maxRecDepth 100000 in
set_option maxHeartbeats 16000000 in
theorem takeC_fn (us : List U) (p : Nat) (w : Wt) (t : Tg) (win : Int) (hu : us[p]? = some (uWt w)) (hw : w.held.length ≤ 1000) (ha : Asc (keys w.held)) (hwin : 0 ≤ win) (hn0 : 0 ≤ w.nx) (hn1 : w.nx ≤ 10000000000) (hb : ∀ x ∈ w.held, 0 ≤ x.sq ∧ x.sq ≤ 10000000000) (ht0 : 0 ≤ t.sq) (ht1 : t.sq ≤ 10000000000)
    (hnew : ¬ (t.ep < w.ep ∨ t.ep = w.ep ∧ (t.sq < w.nx ∨ (keys w.held)[lb t.sq (keys w.held)]? = some t.sq))) (q : Nat) (w1 : Wt) (o : List Tg) (hq : w.ep < t.ep → q = 0 ∧ w1 = ⟨w.st, t.ep, 0, []⟩ ∧ o = w.held) (hq2 : t.ep = w.ep → q = lb t.sq (keys w.held) ∧ w1 = w ∧ o = [])
    (R : Wt × List Tg) (hR : endV ⟨w1.st, w1.ep, w1.nx, w1.held.take q ++ t :: w1.held.drop q⟩ o win = R) :
    FnOk Try.prog 60 [.pt 1 [p] (p * 4), .t (.int win), .t (encTg t)] [(1, .rows 47 4 us [])] (.t (encTgs R.2)) [(1, .rows 47 4 (us.set p (uWt R.1)) [])] := by
  obtain ⟨g, hg⟩ : ∃ g, g = decide ((keys w.held)[lb t.sq (keys w.held)]? = some t.sq) := ⟨_, rfl⟩
  have hgf : t.ep = w.ep → g = false := fun h => by
    rw [hg]
    exact decide_eq_false fun h2 => hnew (.inr ⟨h, .inr h2⟩)
  have c := bsT_fn w.held t.sq (by omega) ha _ rfl g hg
  obtain ⟨n, hn⟩ : ∃ n, lb t.sq (w.held.map (·.sq)) = n := ⟨_, rfl⟩
  have hnk : lb t.sq (keys w.held) = n := hn
  have hnl : n ≤ w.held.length := by rw [← hnk]; exact lb_len _ _
  rw [hn] at c
  rw [hnk] at hq2
  have hw1 : q ≤ w1.held.length ∧ w1.held.length ≤ 1000 ∧ o.length ≤ 1000 ∧ 0 ≤ w1.nx ∧ w1.nx ≤ 10000000000 ∧ (∀ x ∈ w1.held, 0 ≤ x.sq ∧ x.sq ≤ 10000000000) := by
    by_cases h : w.ep < t.ep
    · obtain ⟨rfl, rfl, rfl⟩ := hq h
      exact ⟨Nat.le_refl _, by simp, hw, by simp, by simp, by simp⟩
    · obtain ⟨rfl, rfl, rfl⟩ := hq2 (by omega)
      exact ⟨hnl, hw, by simp, hn0, hn1, hb⟩
  obtain ⟨hq3, hw1l, hol, hw10, hw11, hw1b⟩ := hw1
  obtain ⟨w2, hw2⟩ : ∃ w2 : Wt, w2 = ⟨w1.st, w1.ep, w1.nx, w1.held.take q ++ t :: w1.held.drop q⟩ := ⟨_, rfl⟩
  have hw2l : w2.held.length = w1.held.length + 1 := by rw [hw2]; simp; omega
  have hw2b : ∀ x ∈ w2.held, 0 ≤ x.sq ∧ x.sq ≤ 10000000000 := by
    intro x hx
    rw [hw2] at hx
    rcases List.mem_append.1 hx with h | h
    · exact hw1b x (List.mem_of_mem_take h)
    · rcases List.mem_cons.1 h with h | h
      · subst h; exact ⟨ht0, ht1⟩
      · exact hw1b x (List.mem_of_mem_drop h)
  have hw2n : w2.nx = w1.nx := by rw [hw2]
  rw [← hw2] at hR
  have hpl : p < us.length := (List.getElem?_eq_some_iff.1 hu).1
  have gset : ∀ (v : List U) (u : U), v.length = us.length → (v.set p u)[p]? = some u := fun v u hv => by rw [List.getElem?_set_self (by omega)]
  have cI := insertT_fn w1.held t q hq3 (by omega)
  obtain ⟨X2, hX2⟩ : ∃ X, us.set p (uWt w2) = X := ⟨_, rfl⟩
  have hX2l : X2.length = us.length := by rw [← hX2]; simp
  have hu2 : X2[p]? = some (uWt w2) := by rw [← hX2]; exact gset us _ rfl
  have c1 := release_fn X2 p w2 hu2 (by omega) (by omega) (by omega)
  obtain ⟨w3, hw3⟩ : ∃ w3, gvW w2 = w3 := ⟨_, rfl⟩
  obtain ⟨o1, ho1⟩ : ∃ o1, gvL w2 = o1 := ⟨_, rfl⟩
  have hl3 := gvL_len w2
  rw [ho1, hw3] at hl3
  have hw3b : ∀ x ∈ w3.held, 0 ≤ x.sq ∧ x.sq ≤ 10000000000 := fun x hx => hw2b x (gvW_held w2 x (by rw [hw3]; exact hx))
  rw [hw3, ho1] at c1
  obtain ⟨X3, hX3⟩ : ∃ X, X2.set p (uWt w3) = X := ⟨_, rfl⟩
  rw [hX3] at c1
  have hX3l : X3.length = us.length := by rw [← hX3]; simp [hX2l]
  have hu3 : X3[p]? = some (uWt w3) := by rw [← hX3]; exact gset X2 _ hX2l
  have hX3e : X3 = us.set p (uWt w3) := by rw [← hX3, ← hX2, List.set_set]
  unfold endV at hR
  rw [hw3, ho1] at hR
  have hep3 : w3.st = w2.st ∧ w3.ep = w2.ep := by rw [← hw3]; exact ⟨rfl, rfl⟩
  obtain ⟨st, ep, nx, l⟩ := w
  obtain ⟨t1, t2, t3, t4, t5, tv⟩ := t
  obtain ⟨st1, ep1, nx1, l1⟩ := w1
  unfold uWt at hu
  dsimp only at *
  clear hn hg hnk hb ha hw2b hw1b
  have hre : us.set p (.fw [.int st, .int ep, .int nx] 38 6 (l.map encTg)) = us := set_same hu
  refine FnOk.intro fact_mixed Try.func60 rfl Try.ntmps60 (by rfl) (by simp) ?_
  refine CW.openRow 1 p 555 (us := us) (ex := []) (u := .fw [.int st, .int ep, .int nx] 38 6 (l.map encTg)) (b := .list 38 6 (l.map encTg)) (by rfl) hu (by rfl) (by rfl) (by kernel_rfl) (by omega) ?_
  simp [go_sem, ↓iO, iO, tN]
  repeat (first | (refine nf1_sound rfl ?_; simp [go_sem, ↓iO, iO, tN, hu]; (repeat (refine anI ?_)); try (refine ⟨dcK, ?_⟩)) | ((first | refine itePos (by omega) ?_ | refine iteNeg (by omega) ?_); try simp [go_sem, ↓iO, iO, tN, hu]) | (refine ⟨dcK, ?_⟩))
  refine CallK.fn (c) [] [555] [] (by kernel_rfl) ?_ ?_ ?_ (Or.inr ⟨?_, ?_⟩) ?_ <;> simp [go_sem, ↓iO, iO, tN, hu]
  repeat (refine anI ?_)
  try (refine ⟨dcK, ?_⟩)
  refine nf_sound [2] _ _ _ ?_
  simp (maxSteps := 2000000) [go_sem, ↓iO, iO, tN, hu, stops, firstReg]
  refine CW.cut (ι := Unit) (fun _ => ⟨[(0, .pt 1 [p] (p * 4)), (1, .t (.int win)), (5, .pt 505 [] 0), (7, .t (.int n))], [(1, .rows 47 4 us [(p, .ag [.t (.int st), .t (.int ep), .t (.int nx), .own 555])]), (505, .box 38 (.t (.agg [.int t1, .int t2, .int t3, .int t4, .int t5, encIs tv]))), (555, .list 38 6 (l.map encTg))]⟩) (fun _ => True) ?_ ?_
  · by_cases h1 : t2 = ep
    · have h2 := hgf h1
      have h3 : ¬ t3 < nx := fun h => hnew (.inr ⟨h1, .inl h⟩)
      subst h1 h2
      repeat (first | (refine nf1_sound rfl ?_; simp [go_sem, ↓iO, iO, tN, hu]; (repeat (refine anI ?_)); try (refine ⟨dcK, ?_⟩)) | ((first | refine itePos (by omega) ?_ | refine iteNeg (by omega) ?_); try simp [go_sem, ↓iO, iO, tN, hu]) | (refine ⟨dcK, ?_⟩))
      rw [CutQ_normal]; refine ⟨(), [(1, some 1), (505, some 105), (555, some 555)], ?_, ?_⟩
      · trivial
      simp [go_sem, ↓iO, iO, tN]
    · have h2 : ep < t2 := by rcases Int.lt_or_gt_of_ne h1 with h | h; exact (hnew (.inl h)).elim; exact h
      repeat (first | (refine nf1_sound rfl ?_; simp [go_sem, ↓iO, iO, tN, hu]; (repeat (refine anI ?_)); try (refine ⟨dcK, ?_⟩)) | ((first | refine itePos (by omega) ?_ | refine iteNeg (by omega) ?_); try simp [go_sem, ↓iO, iO, tN, hu]) | (refine ⟨dcK, ?_⟩))
      rw [CutQ_normal]; refine ⟨(), [(1, some 1), (505, some 105), (555, some 555)], ?_, ?_⟩
      · trivial
      simp [go_sem, ↓iO, iO, tN]
  rintro _ _
  refine nf_sound [5] _ _ _ ?_
  simp (maxSteps := 2000000) [go_sem, ↓iO, iO, tN, hu, stops, firstReg]
  refine CW.cut (ι := Unit) (fun _ => ⟨[(0, .pt 1 [p] (p * 4)), (1, .t (.int win)), (5, .pt 505 [] 0), (7, .t (.int q)), (9, .own 509)], [(1, .rows 47 4 us [(p, .ag [.t (.int st1), .t (.int ep1), .t (.int nx1), .own 556])]), (505, .box 38 (.t (.agg [.int t1, .int t2, .int t3, .int t4, .int t5, encIs tv]))), (556, .list 38 6 (l1.map encTg)), (509, .list 38 6 (o.map encTg))]⟩) (fun _ => True) ?_ ?_
  · by_cases h1 : ep < t2
    · obtain ⟨e1, e2, e3⟩ := hq h1
      simp only [Wt.mk.injEq] at e2
      obtain ⟨rfl, rfl, rfl, rfl⟩ := e2
      subst e1 e3
      clear hq hq2
      repeat (first | (refine nf1_sound rfl ?_; simp [go_sem, ↓iO, iO, tN, hu]; (repeat (refine anI ?_)); try (refine ⟨dcK, ?_⟩)) | ((first | refine itePos (by omega) ?_ | refine iteNeg (by omega) ?_); try simp [go_sem, ↓iO, iO, tN, hu]) | (refine ⟨dcK, ?_⟩))
      rw [CutQ_normal]; refine ⟨(), [(1, some 1), (505, some 505), (509, some 555), (556, none)], ?_, ?_⟩
      · trivial
      simp [go_sem, ↓iO, iO, tN, wkXs]
    · have h2 : t2 = ep := by
        rcases Int.lt_trichotomy t2 ep with h | h | h
        · exact (hnew (.inl h)).elim
        · exact h
        · omega
      obtain ⟨e1, e2, e3⟩ := hq2 h2
      simp only [Wt.mk.injEq] at e2
      obtain ⟨rfl, rfl, rfl, rfl⟩ := e2
      subst e1 e3
      clear hq hq2
      repeat (first | (refine nf1_sound rfl ?_; simp [go_sem, ↓iO, iO, tN, hu]; (repeat (refine anI ?_)); try (refine ⟨dcK, ?_⟩)) | ((first | refine itePos (by omega) ?_ | refine iteNeg (by omega) ?_); try simp [go_sem, ↓iO, iO, tN, hu]) | (refine ⟨dcK, ?_⟩))
      rw [CutQ_normal]; refine ⟨(), [(1, some 1), (505, some 505), (556, some 555), (509, none)], ?_, ?_⟩
      · trivial
      simp [go_sem, ↓iO, iO, tN]
  rintro _ _
  clear hq hq2
  obtain ⟨H, hH⟩ : ∃ H : List Tg, H = l1.take q ++ ⟨t1, t2, t3, t4, t5, tv⟩ :: l1.drop q := ⟨_, rfl⟩
  rw [← hH] at cI hw2
  have hw2h : w2.held = H := by rw [hw2]
  have hHl : H.length = l1.length + 1 := by rw [← hw2h]; exact hw2l
  have huw : uWt w2 = .fw [.int st1, .int ep1, .int nx1] 38 6 (H.map encTg) := by rw [hw2]; rfl
  rw [huw] at hX2
  clear hH huw
  have ho1l : o1.length ≤ 1001 := by omega
  repeat (first | (refine nf1_sound rfl ?_; simp [go_sem, ↓iO, iO, tN, hu]; (repeat (refine anI ?_)); try (refine ⟨dcK, ?_⟩)) | ((first | refine itePos (by omega) ?_ | refine iteNeg (by omega) ?_); try simp [go_sem, ↓iO, iO, tN, hu]) | (refine ⟨dcK, ?_⟩))
  refine CallK.fn (cI) [(1, 556), (2, 175), (1000, 609)] [] [] (by kernel_rfl) ?_ ?_ ?_ (Or.inl rfl) ?_ <;> simp [go_sem, ↓iO, iO, tN, hu]
  repeat (refine anI ?_)
  try (refine ⟨dcK, ?_⟩)
  refine nf_sound [10] _ _ _ ?_
  simp (maxSteps := 2000000) [go_sem, ↓iO, iO, tN, hu, stops, firstReg]
  refine CW.closeRow 1 p 609 (.fw [.int st1, .int ep1, .int nx1] 38 6 (H.map encTg)) (us := us) (e := 47) (s := 4) (e' := 38) (s' := 6) (xs := H.map encTg) (ex := [(p, .ag [.t (.int st1), .t (.int ep1), .t (.int nx1), .own 609])]) (by simp [go_sem]) (by simp [go_sem]) (by simp [go_sem]) (by rfl) ?_
  simp [go_sem, ↓iO, iO, tN, hX2]
  repeat (first | (refine nf1_sound rfl ?_; simp [go_sem, ↓iO, iO, tN]; (repeat (refine anI ?_)); try (refine ⟨dcK, ?_⟩)) | ((first | refine itePos (by omega) ?_ | refine iteNeg (by omega) ?_); try simp [go_sem, ↓iO, iO, tN]) | (refine ⟨dcK, ?_⟩))
  refine CallK.fn (c1) [(1000, 610)] [] [] (by kernel_rfl) ?_ ?_ ?_ (Or.inl rfl) ?_ <;> simp [go_sem, ↓iO, iO, tN, hX2l]
  repeat (refine anI ?_)
  try (refine ⟨dcK, ?_⟩)
  obtain ⟨st3, ep3, nx3, l3⟩ := w3
  unfold uWt at hu3
  dsimp only at hu3 hR hep3 hl3
  refine CW.openRow 1 p 557 (us := X3) (ex := []) (u := .fw [.int st3, .int ep3, .int nx3] 38 6 (l3.map encTg)) (b := .list 38 6 (l3.map encTg)) (by rfl) hu3 (by rfl) (by rfl) (by kernel_rfl) (by omega) ?_
  simp [go_sem, ↓iO, iO, tN]
  by_cases hlen : win < l3.length
  · cases l3 with
    | nil => simp at hlen; omega
    | cons x r =>
      simp only [List.length_cons] at hl3 hlen
      have hlen' : win < (r.length : Int) + 1 := by omega
      have hxb := hw3b x (by simp)
      dsimp only at hR
      rw [if_pos hlen, ← hep3.1, ← hep3.2] at hR
      obtain ⟨w4, hw4⟩ : ∃ w4 : Wt, w4 = ⟨st3, ep3, x.sq, x :: r⟩ := ⟨_, rfl⟩
      have huw4 : uWt w4 = .fw [.int st3, .int ep3, .int x.sq] 38 6 ((x :: r).map encTg) := by rw [hw4]; rfl
      obtain ⟨X4, hX4⟩ : ∃ X, X3.set p (uWt w4) = X := ⟨_, rfl⟩
      have hX4l : X4.length = us.length := by rw [← hX4]; simp [hX3l]
      have hu4 : X4[p]? = some (uWt w4) := by rw [← hX4]; exact gset X3 _ hX3l
      have hw4n : w4.nx = x.sq := by rw [hw4]
      have hw4l : w4.held.length = r.length + 1 := by rw [hw4]; simp
      have c2 := release_fn X4 p w4 hu4 (by omega) (by omega) (by omega)
      rw [← hw4] at hR
      obtain ⟨w5, hw5⟩ : ∃ w5, gvW w4 = w5 := ⟨_, rfl⟩
      obtain ⟨o2, ho2⟩ : ∃ o2, gvL w4 = o2 := ⟨_, rfl⟩
      have ho2l : o2.length ≤ 1001 := by have := gvL_len w4; rw [ho2] at this; omega
      rw [hw5, ho2] at hR c2
      have hX5 : X4.set p (uWt w5) = us.set p (uWt w5) := by rw [← hX4, List.set_set, hX3e, List.set_set]
      rw [hX5] at c2
      rw [huw4] at hX4
      clear huw4 hw4
      refine nf_sound [12] _ _ _ ?_
      simp (maxSteps := 2000000) [go_sem, ↓iO, iO, tN, hu3, hlen', stops, firstReg]
      iterate 1 (refine nf1_sound rfl ?_; simp [go_sem, ↓iO, iO, tN, hu3, hlen']; (repeat (refine anI ?_)); try (refine ⟨dcK, ?_⟩))
      refine CW.closeRow 1 p 557 (.fw [.int st3, .int ep3, .int x.sq] 38 6 ((x :: r).map encTg)) (us := X3) (e := 47) (s := 4) (e' := 38) (s' := 6) (xs := (x :: r).map encTg) (ex := [(p, .ag [.t (.int st3), .t (.int ep3), .t (.int x.sq), .own 557])]) (by simp [go_sem]) (by simp [go_sem]) (by simp [go_sem]) (by rfl) ?_
      rw [hX4]
      simp [go_sem, ↓iO, iO, tN]
      repeat (first | (refine nf1_sound rfl ?_; simp [go_sem, ↓iO, iO, tN]; (repeat (refine anI ?_)); try (refine ⟨dcK, ?_⟩)) | ((first | refine itePos (by omega) ?_ | refine iteNeg (by omega) ?_); try simp [go_sem, ↓iO, iO, tN]) | (refine ⟨dcK, ?_⟩))
      refine CallK.fn (c2) [(1000, 611)] [] [] (by kernel_rfl) ?_ ?_ ?_ (Or.inl rfl) ?_ <;> simp [go_sem, ↓iO, iO, tN, hX4l]
      repeat (refine anI ?_)
      try (refine ⟨dcK, ?_⟩)
      repeat (first | (refine nf1_sound rfl ?_; simp [go_sem, ↓iO, iO, tN]; (repeat (refine anI ?_)); try (refine ⟨dcK, ?_⟩)) | ((first | refine itePos (by omega) ?_ | refine iteNeg (by omega) ?_); try simp [go_sem, ↓iO, iO, tN]) | (refine ⟨dcK, ?_⟩))
      subst hR
      first | rw [RetQ_ret] | rw [RetQ_normal]
      refine ⟨[(1, some 1)], ?_⟩
      simp [go_sem, ↓iO, iO, tN]
  · have hR2 : R = (⟨st3, ep3, nx3, l3⟩, o ++ o1) := by
      rw [← hR]
      cases l3 with
      | nil => rfl
      | cons x r =>
        dsimp only
        rw [if_neg]
        simpa using hlen
    have hre3 : X3.set p (.fw [.int st3, .int ep3, .int nx3] 38 6 (l3.map encTg)) = X3 := set_same hu3
    subst hR2
    clear hR
    refine nf_sound [14] _ _ _ ?_
    simp (maxSteps := 2000000) [go_sem, ↓iO, iO, tN, hu3, hlen, stops, firstReg]
    refine CW.closeRow 1 p 557 (.fw [.int st3, .int ep3, .int nx3] 38 6 (l3.map encTg)) (us := X3) (e := 47) (s := 4) (e' := 38) (s' := 6) (xs := l3.map encTg) (ex := [(p, .ag [.t (.int st3), .t (.int ep3), .t (.int nx3), .own 557])]) (by simp [go_sem]) (by simp [go_sem]) (by simp [go_sem]) (by rfl) ?_
    rw [hre3, hX3e]
    simp [go_sem, ↓iO, iO, tN]
    repeat (first | (refine nf1_sound rfl ?_; simp [go_sem, ↓iO, iO, tN]; (repeat (refine anI ?_)); try (refine ⟨dcK, ?_⟩)) | ((first | refine itePos (by omega) ?_ | refine iteNeg (by omega) ?_); try simp [go_sem, ↓iO, iO, tN]) | (refine ⟨dcK, ?_⟩))
    first | rw [RetQ_ret] | rw [RetQ_normal]
    refine ⟨[(1, some 1)], ?_⟩
    simp [go_sem, ↓iO, iO, tN]
end Go.Proofs.Ytopmmodcaoaaeaa
namespace Go.Proofs.Ytopmmodcaoaaeaa
open Go.RowKit Sy
open Go.IntWalk renaming iteOmega → iO, toNatUp → tN
set_option linter.unusedVariables false
set_option linter.unusedSimpArgs false
/-- What take asks of an entry and a telegram. -/
structure TkOk (w : Wt) (t : Tg) (win : Int) : Prop where
  hw : w.held.length ≤ 1000
  ha : Asc (keys w.held)
  hwin : 0 ≤ win
  hn0 : 0 ≤ w.nx
  hn1 : w.nx ≤ 10000000000
  hb : ∀ x ∈ w.held, 0 ≤ x.sq ∧ x.sq ≤ 10000000000
  ht0 : 0 ≤ t.sq
  ht1 : t.sq ≤ 10000000000
theorem keys_at (l : List Tg) (n : Nat) (s : Int) : (keys l)[n]? = some s ↔ ∃ x, l[n]? = some x ∧ x.sq = s := by
  unfold keys
  rw [List.getElem?_map]
  cases l[n]? <;> simp
theorem take_fn (us : List U) (p : Nat) (w : Wt) (t : Tg) (win : Int) (hu : us[p]? = some (uWt w)) (h : TkOk w t win) :
    FnOk Try.prog 60 [.pt 1 [p] (p * 4), .t (.int win), .t (encTg t)] [(1, .rows 47 4 us [])] (.t (encTgs (takeV w t win).2)) [(1, .rows 47 4 (us.set p (uWt (takeV w t win).1)) [])] := by
  by_cases h1 : t.ep < w.ep ∨ t.ep = w.ep ∧ t.sq < w.nx
  · have e : takeV w t win = (w, []) := by unfold takeV; rw [if_pos h1]
    rw [e, set_same hu]
    exact takeA_fn us p w t win hu h.hw h.ha (by rcases h1 with h1 | ⟨h1, h2⟩; exact .inl h1; exact .inr ⟨h1, .inl h2⟩)
  by_cases h2 : w.ep < t.ep
  · have e : takeV w t win = endV ⟨w.st, t.ep, 0, ([] : List Tg).take 0 ++ t :: ([] : List Tg).drop 0⟩ w.held win := by
      unfold takeV putV
      rw [if_neg h1, if_pos h2, if_neg (by simp)]
      rfl
    exact takeC_fn us p w t win hu h.hw h.ha h.hwin h.hn0 h.hn1 h.hb h.ht0 h.ht1 (by omega) 0 ⟨w.st, t.ep, 0, []⟩ w.held (fun _ => ⟨rfl, rfl, rfl⟩) (fun h3 => by omega) _ e.symm
  have h3 : t.ep = w.ep := by omega
  by_cases h4 : (keys w.held)[lb t.sq (keys w.held)]? = some t.sq
  · have e : takeV w t win = (w, []) := by
      unfold takeV putV
      rw [if_neg h1, if_neg h2, if_pos ((keys_at _ _ _).1 h4)]
    rw [e, set_same hu]
    exact takeA_fn us p w t win hu h.hw h.ha (.inr ⟨h3, .inr h4⟩)
  · have e : takeV w t win = endV ⟨w.st, w.ep, w.nx, w.held.take (lb t.sq (keys w.held)) ++ t :: w.held.drop (lb t.sq (keys w.held))⟩ [] win := by
      unfold takeV putV
      rw [if_neg h1, if_neg h2, if_neg (fun h5 => h4 ((keys_at _ _ _).2 h5))]
      simp
    exact takeC_fn us p w t win hu h.hw h.ha h.hwin h.hn0 h.hn1 h.hb h.ht0 h.ht1 (by
      rintro (h5 | ⟨h5, h6 | h6⟩)
      · exact h1 (.inl h5)
      · exact h1 (.inr ⟨h5, h6⟩)
      · exact h4 h6) _ w [] (fun h5 => absurd h5 h2) (fun _ => ⟨rfl, rfl, rfl⟩) _ e.symm
theorem toT_uWt : U.toT ∘ uWt = encWt := rfl
@[go_sem] def boxIn (win : Int) (tail : List Nat) (k : Nat) : Blk := .box 29 (.ag [.t (.int win), .t (encUs tail), .own k])
set_option maxRecDepth 100000 in
set_option maxHeartbeats 8000000 in
theorem acceptBad_fn (win : Int) (tail : List Nat) (l : List Wt) (t : Tg) (ht : t.vs.length ≤ 1000000) (hn : ¬ TgOk t) :
    FnOk Try.prog 35 [.pt 1 [] 0, .t (encTg t)] [(1, boxIn win tail 2), (2, rowWts l)] (.tup [.t (encTgs []), .t (.int 3)]) [(1, boxIn win tail 2), (2, rowWts l)] := by
  have c := valid_fn t (by omega) false (decide_eq_false hn)
  refine FnOk.intro fact_mixed Try.func35 rfl Try.ntmps35 (by rfl) (by simp) ?_
  repeat (first | (refine nf1_sound rfl ?_; simp [go_sem, ↓iO, iO, tN]; (repeat (refine anI ?_)); try (refine ⟨dcK, ?_⟩)) | ((first | refine itePos (by omega) ?_ | refine iteNeg (by omega) ?_); try simp [go_sem, ↓iO, iO, tN]) | (refine ⟨dcK, ?_⟩))
  refine CallK.fn (c) [] [] [] (by kernel_rfl) ?_ ?_ ?_ (Or.inl rfl) ?_ <;> simp [go_sem, ↓iO, iO, tN]
  repeat (refine anI ?_)
  try (refine ⟨dcK, ?_⟩)
  repeat (first | (refine nf1_sound rfl ?_; simp [go_sem, ↓iO, iO, tN]; (repeat (refine anI ?_)); try (refine ⟨dcK, ?_⟩)) | ((first | refine itePos (by omega) ?_ | refine iteNeg (by omega) ?_); try simp [go_sem, ↓iO, iO, tN]) | (refine ⟨dcK, ?_⟩))
  first | rw [RetQ_ret] | rw [RetQ_normal]
  refine ⟨[(1, some 1), (2, some 2)], ?_⟩
  simp [go_sem, ↓iO, iO, tN]
set_option maxRecDepth 100000 in
set_option maxHeartbeats 8000000 in
theorem acceptFull_fn (win : Int) (tail : List Nat) (l : List Wt) (t : Tg) (ht : t.vs.length ≤ 1000000) (hn : TgOk t) (hl : l.length = 64) (ha : Asc (l.map (·.st))) (hk : (l.map (·.st))[lb t.st (l.map (·.st))]? ≠ some t.st) :
    FnOk Try.prog 35 [.pt 1 [] 0, .t (encTg t)] [(1, boxIn win tail 2), (2, rowWts l)] (.tup [.t (encTgs []), .t (.int 4)]) [(1, boxIn win tail 2), (2, rowWts l)] := by
  have c := valid_fn t (by omega) true (decide_eq_true hn)
  have cb := bsW_fn l t.st (by omega) ha _ rfl false (decide_eq_false hk).symm
  obtain ⟨p, hp⟩ : ∃ p, lb t.st (l.map (·.st)) = p := ⟨_, rfl⟩
  rw [hp] at cb
  refine FnOk.intro fact_mixed Try.func35 rfl Try.ntmps35 (by rfl) (by simp) ?_
  repeat (first | (refine nf1_sound rfl ?_; simp [go_sem, ↓iO, iO, tN]; (repeat (refine anI ?_)); try (refine ⟨dcK, ?_⟩)) | ((first | refine itePos (by omega) ?_ | refine iteNeg (by omega) ?_); try simp [go_sem, ↓iO, iO, tN]) | (refine ⟨dcK, ?_⟩))
  refine CallK.fn (c) [] [] [] (by kernel_rfl) ?_ ?_ ?_ (Or.inl rfl) ?_ <;> simp [go_sem, ↓iO, iO, tN]
  repeat (refine anI ?_)
  try (refine ⟨dcK, ?_⟩)
  repeat (first | (refine nf1_sound rfl ?_; simp [go_sem, ↓iO, iO, tN]; (repeat (refine anI ?_)); try (refine ⟨dcK, ?_⟩)) | ((first | refine itePos (by omega) ?_ | refine iteNeg (by omega) ?_); try simp [go_sem, ↓iO, iO, tN]) | (refine ⟨dcK, ?_⟩))
  refine CallK.fn (cb) [] [2] [] (by kernel_rfl) ?_ ?_ ?_ (Or.inr ⟨?_, ?_⟩) ?_ <;> simp [go_sem, ↓iO, iO, tN, toT_uWt]
  repeat (refine anI ?_)
  try (refine ⟨dcK, ?_⟩)
  repeat (first | (refine nf1_sound rfl ?_; simp [go_sem, ↓iO, iO, tN, hl]; (repeat (refine anI ?_)); try (refine ⟨dcK, ?_⟩)) | ((first | refine itePos (by omega) ?_ | refine iteNeg (by omega) ?_); try simp [go_sem, ↓iO, iO, tN, hl]) | (refine ⟨dcK, ?_⟩))
  first | rw [RetQ_ret] | rw [RetQ_normal]
  refine ⟨[(1, some 1), (2, some 2)], ?_⟩
  simp [go_sem, ↓iO, iO, tN]
set_option maxRecDepth 100000 in
set_option maxHeartbeats 8000000 in
theorem acceptKnown_fn (win : Int) (tail : List Nat) (l : List Wt) (t : Tg) (ht : t.vs.length ≤ 1000000) (hn : TgOk t) (hl : l.length ≤ 64) (ha : Asc (l.map (·.st))) (p : Nat) (hp : lb t.st (l.map (·.st)) = p) (w : Wt) (hw : l[p]? = some w) (hws : w.st = t.st) (hk : TkOk w t win) :
    FnOk Try.prog 35 [.pt 1 [] 0, .t (encTg t)] [(1, boxIn win tail 2), (2, rowWts l)] (.tup [.t (encTgs (takeV w t win).2), .t (.int 0)]) [(1, boxIn win tail 2), (2, rowWts (l.set p (takeV w t win).1))] := by
  have c := valid_fn t (by omega) true (decide_eq_true hn)
  have hkn : (l.map (·.st))[p]? = some t.st := by rw [List.getElem?_map, hw]; simp [hws]
  have cb := bsW_fn l t.st (by omega) ha p hp true (decide_eq_true hkn).symm
  have hpl : p < l.length := (List.getElem?_eq_some_iff.1 hw).1
  have hu : (l.map uWt)[p]? = some (uWt w) := by rw [List.getElem?_map, hw]; rfl
  have cm := message_fn t (by omega)
  have ct := take_fn (l.map uWt) p w t win hu hk
  obtain ⟨o, ho⟩ : ∃ o, (takeV w t win).2 = o := ⟨_, rfl⟩
  obtain ⟨w', hw'⟩ : ∃ w', (takeV w t win).1 = w' := ⟨_, rfl⟩
  rw [ho, hw'] at ct
  rw [ho, hw']
  clear hp hkn hu hk
  refine FnOk.intro fact_mixed Try.func35 rfl Try.ntmps35 (by rfl) (by simp) ?_
  repeat (first | (refine nf1_sound rfl ?_; simp [go_sem, ↓iO, iO, tN]; (repeat (refine anI ?_)); try (refine ⟨dcK, ?_⟩)) | ((first | refine itePos (by omega) ?_ | refine iteNeg (by omega) ?_); try simp [go_sem, ↓iO, iO, tN]) | (refine ⟨dcK, ?_⟩))
  refine CallK.fn (c) [] [] [] (by kernel_rfl) ?_ ?_ ?_ (Or.inl rfl) ?_ <;> simp [go_sem, ↓iO, iO, tN]
  repeat (refine anI ?_)
  try (refine ⟨dcK, ?_⟩)
  repeat (first | (refine nf1_sound rfl ?_; simp [go_sem, ↓iO, iO, tN]; (repeat (refine anI ?_)); try (refine ⟨dcK, ?_⟩)) | ((first | refine itePos (by omega) ?_ | refine iteNeg (by omega) ?_); try simp [go_sem, ↓iO, iO, tN]) | (refine ⟨dcK, ?_⟩))
  refine CallK.fn (cb) [] [2] [] (by kernel_rfl) ?_ ?_ ?_ (Or.inr ⟨?_, ?_⟩) ?_ <;> simp [go_sem, ↓iO, iO, tN, toT_uWt]
  repeat (refine anI ?_)
  try (refine ⟨dcK, ?_⟩)
  repeat (first | (refine nf1_sound rfl ?_; simp [go_sem, ↓iO, iO, tN]; (repeat (refine anI ?_)); try (refine ⟨dcK, ?_⟩)) | ((first | refine itePos (by omega) ?_ | refine iteNeg (by omega) ?_); try simp [go_sem, ↓iO, iO, tN]) | (refine ⟨dcK, ?_⟩))
  refine CallK.fn (cm) [] [] [] (by kernel_rfl) ?_ ?_ ?_ (Or.inl rfl) ?_ <;> simp [go_sem, ↓iO, iO, tN]
  repeat (refine anI ?_)
  try (refine ⟨dcK, ?_⟩)
  refine CallK.fn (ct) [(1, 2)] [] [] (by kernel_rfl) ?_ ?_ ?_ (Or.inl rfl) ?_ <;> simp [go_sem, ↓iO, iO, tN]
  repeat (refine anI ?_)
  try (refine ⟨dcK, ?_⟩)
  repeat (first | (refine nf1_sound rfl ?_; simp [go_sem, ↓iO, iO, tN]; (repeat (refine anI ?_)); try (refine ⟨dcK, ?_⟩)) | ((first | refine itePos (by omega) ?_ | refine iteNeg (by omega) ?_); try simp [go_sem, ↓iO, iO, tN]) | (refine ⟨dcK, ?_⟩))
  first | rw [RetQ_ret] | rw [RetQ_normal]
  refine ⟨[(1, some 1), (2, some 2)], ?_⟩
  simp [go_sem, ↓iO, iO, tN]
end Go.Proofs.Ytopmmodcaoaaeaa
namespace Go.Proofs.Ytopmmodcaoaaeaa
open Go.RowKit Sy
open Go.IntWalk renaming iteOmega → iO, toNatUp → tN
set_option linter.unusedVariables false
set_option linter.unusedSimpArgs false
theorem set_mid {α : Type} {l : List α} {p : Nat} {a b : α} (hp : p ≤ l.length) : (l.take p ++ a :: l.drop p).set p b = l.take p ++ b :: l.drop p := by
  have h : (l.take p).length = p := by simp [hp]
  conv => lhs; arg 2; rw [← h]
  rw [List.set_append_right _ _ (Nat.le_refl _), Nat.sub_self, List.set_cons_zero]
set_option maxRecDepth 100000 in
set_option maxHeartbeats 8000000 in
theorem acceptNew_fn (win : Int) (tail : List Nat) (l : List Wt) (t : Tg) (ht : t.vs.length ≤ 1000000) (hn : TgOk t) (hl : l.length < 64) (ha : Asc (l.map (·.st))) (p : Nat) (hp : lb t.st (l.map (·.st)) = p) (hk : (l.map (·.st))[p]? ≠ some t.st) (hkt : TkOk ⟨t.st, t.ep, 0, []⟩ t win) :
    FnOk Try.prog 35 [.pt 1 [] 0, .t (encTg t)] [(1, boxIn win tail 2), (2, rowWts l)] (.tup [.t (encTgs (takeV ⟨t.st, t.ep, 0, []⟩ t win).2), .t (.int 0)]) [(1, boxIn win tail 1000), (1000, rowWts (l.take p ++ (takeV ⟨t.st, t.ep, 0, []⟩ t win).1 :: l.drop p))] := by
  have c := valid_fn t (by omega) true (decide_eq_true hn)
  have cb := bsW_fn l t.st (by omega) ha p hp false (decide_eq_false hk).symm
  have hpl : p ≤ l.length := by have := lb_le t.st (l.map (·.st)); rw [hp] at this; simpa using this
  have ci := insertW_fn l t.st t.ep p hpl (by omega)
  obtain ⟨l2, hl2⟩ : ∃ l2 : List Wt, l2 = l.take p ++ ⟨t.st, t.ep, 0, []⟩ :: l.drop p := ⟨_, rfl⟩
  have hl2l : l2.length = l.length + 1 := by rw [hl2]; simp; omega
  have hp2 : p < l2.length := by omega
  have hg : l2[p]? = some ⟨t.st, t.ep, 0, []⟩ := by
    rw [hl2, List.getElem?_append_right (by simp; omega)]
    simp [Nat.min_eq_left hpl]
  have hu : (l2.map uWt)[p]? = some (uWt ⟨t.st, t.ep, 0, []⟩) := by rw [List.getElem?_map, hg]; rfl
  have cm := message_fn t (by omega)
  have ct := take_fn (l2.map uWt) p ⟨t.st, t.ep, 0, []⟩ t win hu hkt
  obtain ⟨o, ho⟩ : ∃ o, (takeV ⟨t.st, t.ep, 0, []⟩ t win).2 = o := ⟨_, rfl⟩
  obtain ⟨w', hw'⟩ : ∃ w', (takeV ⟨t.st, t.ep, 0, []⟩ t win).1 = w' := ⟨_, rfl⟩
  rw [ho, hw'] at ct
  rw [ho, hw']
  rw [← hl2] at ci
  have hres : l.take p ++ w' :: l.drop p = l2.set p w' := by rw [hl2, set_mid hpl]
  rw [hres]
  clear hp hk hu hkt hg hres hl2
  obtain ⟨t1, t2, t3, t4, t5, tv⟩ := t
  dsimp only at *
  refine FnOk.intro fact_mixed Try.func35 rfl Try.ntmps35 (by rfl) (by simp) ?_
  repeat (first | (refine nf1_sound rfl ?_; simp [go_sem, ↓iO, iO, tN]; (repeat (refine anI ?_)); try (refine ⟨dcK, ?_⟩)) | ((first | refine itePos (by omega) ?_ | refine iteNeg (by omega) ?_); try simp [go_sem, ↓iO, iO, tN]) | (refine ⟨dcK, ?_⟩))
  refine CallK.fn (c) [] [] [] (by kernel_rfl) ?_ ?_ ?_ (Or.inl rfl) ?_ <;> simp [go_sem, ↓iO, iO, tN]
  repeat (refine anI ?_)
  try (refine ⟨dcK, ?_⟩)
  repeat (first | (refine nf1_sound rfl ?_; simp [go_sem, ↓iO, iO, tN]; (repeat (refine anI ?_)); try (refine ⟨dcK, ?_⟩)) | ((first | refine itePos (by omega) ?_ | refine iteNeg (by omega) ?_); try simp [go_sem, ↓iO, iO, tN]) | (refine ⟨dcK, ?_⟩))
  refine CallK.fn (cb) [] [2] [] (by kernel_rfl) ?_ ?_ ?_ (Or.inr ⟨?_, ?_⟩) ?_ <;> simp [go_sem, ↓iO, iO, tN, toT_uWt]
  repeat (refine anI ?_)
  try (refine ⟨dcK, ?_⟩)
  repeat (first | (refine nf1_sound rfl ?_; simp [go_sem, ↓iO, iO, tN]; (repeat (refine anI ?_)); try (refine ⟨dcK, ?_⟩)) | ((first | refine itePos (by omega) ?_ | refine iteNeg (by omega) ?_); try simp [go_sem, ↓iO, iO, tN]) | (refine ⟨dcK, ?_⟩))
  refine CallK.fn (ci) [(1, 2), (2, 140), (1000, 600)] [] [] (by kernel_rfl) ?_ ?_ ?_ (Or.inl rfl) ?_ <;> simp [go_sem, ↓iO, iO, tN]
  repeat (refine anI ?_)
  try (refine ⟨dcK, ?_⟩)
  repeat (first | (refine nf1_sound rfl ?_; simp [go_sem, ↓iO, iO, tN]; (repeat (refine anI ?_)); try (refine ⟨dcK, ?_⟩)) | ((first | refine itePos (by omega) ?_ | refine iteNeg (by omega) ?_); try simp [go_sem, ↓iO, iO, tN]) | (refine ⟨dcK, ?_⟩))
  refine CallK.fn (cm) [] [] [] (by kernel_rfl) ?_ ?_ ?_ (Or.inl rfl) ?_ <;> simp [go_sem, ↓iO, iO, tN]
  repeat (refine anI ?_)
  try (refine ⟨dcK, ?_⟩)
  refine CallK.fn (ct) [(1, 600)] [] [] (by kernel_rfl) ?_ ?_ ?_ (Or.inl rfl) ?_ <;> simp [go_sem, ↓iO, iO, tN]
  repeat (refine anI ?_)
  try (refine ⟨dcK, ?_⟩)
  repeat (first | (refine nf1_sound rfl ?_; simp [go_sem, ↓iO, iO, tN]; (repeat (refine anI ?_)); try (refine ⟨dcK, ?_⟩)) | ((first | refine itePos (by omega) ?_ | refine iteNeg (by omega) ?_); try simp [go_sem, ↓iO, iO, tN]) | (refine ⟨dcK, ?_⟩))
  first | rw [RetQ_ret] | rw [RetQ_normal]
  refine ⟨[(1, some 1), (1000, some 600)], ?_⟩
  simp [go_sem, ↓iO, iO, tN]
end Go.Proofs.Ytopmmodcaoaaeaa
namespace Go.Proofs.Ytopmmodcaoaaeaa
open Go.RowKit Sy
open Go.IntWalk renaming iteOmega → iO, toNatUp → tN
set_option linter.unusedVariables false
set_option linter.unusedSimpArgs false
def tWt (w : Wt) : U := .t (encWt w)
theorem half_ex (l : List Wt) : ∃ R : Nat → List U, R 0 = l.map tWt ∧ R l.length = l.map uWt ∧ (∀ k, (R k).length = l.length) ∧ (∀ k w, l[k]? = some w → (R k)[k]? = some (.t (encWt w)) ∧ (R k).set k (uWt w) = R (k + 1)) := by
  refine ⟨fun k => (l.take k).map uWt ++ (l.drop k).map tWt, by simp, by simp, fun k => by simp; omega, fun k w hw => ?_⟩
  have hk := (List.getElem?_eq_some_iff.1 hw).1
  have hl : ((l.take k).map uWt).length = k := by simp; omega
  dsimp only
  constructor
  · rw [List.getElem?_append_right (by omega), hl, Nat.sub_self, drop_cons hw]
    rfl
  · rw [drop_cons hw, take_snoc hw, List.map_cons, List.map_append]
    conv => lhs; arg 2; rw [← hl]
    rw [List.set_append_right _ _ (Nat.le_refl _), Nat.sub_self, List.set_cons_zero, List.append_assoc]
    rfl
theorem List.set_getElem?_self' {α : Type} {l : List α} {m : Nat} {x : α} (h : l[m]? = some x) : l.set m x = l := by
  apply List.ext_getElem?
  intro i
  rw [List.getElem?_set]
  split
  · rename_i e
    subst e
    rw [if_pos (List.getElem?_eq_some_iff.1 h).1, h]
  · rfl
set_option maxRecDepth 100000 in
set_option maxHeartbeats 8000000 in
theorem copied_fn (i : In) (htl : i.tail.length ≤ 1000000) (hsl : i.sts.length ≤ 1000000) (hs : ∀ w ∈ i.sts, w.held.length ≤ 1000000 ∧ ∀ t ∈ w.held, t.vs.length ≤ 1000000) : FnOk Try.prog 33 [.t (encIn i)] [] (.ag [.t (.int i.win), .t (encUs i.tail), .own 1000]) [(1000, rowWts i.sts)] := by
  obtain ⟨win, tail, l⟩ := i
  dsimp only at *
  have ct := icloneU_fn tail (by omega)
  have cw := cloneW_fn l hsl
  obtain ⟨R, r0, rn, rl, rs⟩ := half_ex l
  rw [rowWts, ← rn]
  refine FnOk.intro fact_mixed Try.func33 rfl Try.ntmps33 (by rfl) (by simp) ?_
  repeat (first | (refine nf1_sound rfl ?_; simp [go_sem, ↓iO, iO, tN]; (repeat (refine anI ?_)); try (refine ⟨dcK, ?_⟩)) | ((first | refine itePos (by omega) ?_ | refine iteNeg (by omega) ?_); try simp [go_sem, ↓iO, iO, tN]) | (refine ⟨dcK, ?_⟩))
  refine CallK.fn (ct) [(1000, 609)] [] [] (by kernel_rfl) ?_ ?_ ?_ (Or.inl rfl) ?_ <;> simp [go_sem, ↓iO, iO, tN]
  repeat (refine anI ?_)
  try (refine ⟨dcK, ?_⟩)
  refine CallK.fn (cw) [(1000, 610)] [] [] (by kernel_rfl) ?_ ?_ ?_ (Or.inl rfl) ?_ <;> simp [go_sem, ↓iO, iO, tN]
  repeat (refine anI ?_)
  try (refine ⟨dcK, ?_⟩)
  refine CW.toRows 610 (R 0) (e := 47) (s := 4) (xs := l.map encWt) (by simp [go_sem]) (by rw [rl]; simp) (fun j x u h1 h2 => ?_) ?_
  · rw [r0, List.getElem?_map] at h2
    rw [List.getElem?_map] at h1
    cases hj : l[j]? with
    | none => rw [hj] at h1; cases h1
    | some w =>
      rw [hj] at h1 h2
      cases h1; cases h2
      rfl
  simp [go_sem, ↓iO, iO, tN]
  have rl0 := rl 0
  repeat (first | (refine nf1_sound rfl ?_; simp [go_sem, ↓iO, iO, tN, rl0]; (repeat (refine anI ?_)); try (refine ⟨dcK, ?_⟩)) | ((first | refine itePos (by omega) ?_ | refine iteNeg (by omega) ?_); try simp [go_sem, ↓iO, iO, tN, rl0]) | (refine ⟨dcK, ?_⟩))
  refine nf1_sound' _ _ _ ?_; simp only [nf1]
  refine CW.loop (ι := Nat) (fun k => ⟨[(1, .pt 501 [] 0), (2, .pt 502 [] 0), (16, .own 510), (17, .t (.int l.length)), (18, .t (.int k))], [(501, .box 29 (.ag [.t (.int win), .t (encUs tail), .own 510])), (502, .box 29 (.t (.agg [.int 0, .nil, .nil]))), (510, .rows 47 4 (R k) [])]⟩) (fun k => k ≤ l.length) (fun k => l.length - k) 0 [(501, some 101), (502, some 102), (510, some 610)] (by omega) ?_ ?_
  · simp [go_sem, ↓iO, iO, tN]
  intro k hk
  have rlk := rl k
  by_cases hkl : k < l.length
  · obtain ⟨w, hw⟩ := has_get hkl
    obtain ⟨hg, hset⟩ := rs k w hw
    obtain ⟨hwl, hwv⟩ := hs w (mem_get hw)
    obtain ⟨st, ep, nx, h⟩ := w
    dsimp only at hwl hwv
    have ch := cloneT_fn h (by omega)
    obtain ⟨X, hX⟩ : ∃ X, R k = X := ⟨_, rfl⟩
    rw [hX] at hg hset rlk ⊢
    unfold encWt at hg
    dsimp only at hg
    repeat (first | (refine nf1_sound rfl ?_; simp [go_sem, ↓iO, iO, tN, hg, rlk]; (repeat (refine anI ?_)); try (refine ⟨dcK, ?_⟩)) | ((first | refine itePos (by omega) ?_ | refine iteNeg (by omega) ?_); try simp [go_sem, ↓iO, iO, tN, hg, rlk]) | (refine ⟨dcK, ?_⟩))
    refine CallK.fn (ch) [(1000, 611)] [] [] (by kernel_rfl) ?_ ?_ ?_ (Or.inl rfl) ?_ <;> simp [go_sem, ↓iO, iO, tN, hg, rlk]
    repeat (refine anI ?_)
    try (refine ⟨dcK, ?_⟩)
    repeat (first | (refine nf1_sound rfl ?_; simp [go_sem, ↓iO, iO, tN, hg, rlk]; (repeat (refine anI ?_)); try (refine ⟨dcK, ?_⟩)) | ((first | refine itePos (by omega) ?_ | refine iteNeg (by omega) ?_); try simp [go_sem, ↓iO, iO, tN, hg, rlk]) | (refine ⟨dcK, ?_⟩))
    refine nf1_sound' _ _ _ ?_; simp only [nf1]
    refine CW.loop (ι := Nat) (fun m => ⟨[(1, .pt 501 [] 0), (2, .pt 502 [] 0), (16, .own 510), (17, .t (.int l.length)), (18, .t (.int k)), (3, .t (.int k)), (32, .t (encTgs h)), (33, .t (.int h.length)), (34, .t (.int m))], [(501, .box 29 (.ag [.t (.int win), .t (encUs tail), .own 510])), (502, .box 29 (.t (.agg [.int 0, .nil, .nil]))), (510, .rows 47 4 X [(k, .ag [.t (.int st), .t (.int ep), .t (.int nx), .own 511])]), (511, .list 38 6 (h.map encTg))]⟩) (fun m => m ≤ h.length) (fun m => h.length - m) 0 [(501, some 501), (502, some 502), (510, some 510), (511, some 611)] (by omega) ?_ ?_
    · simp [go_sem, ↓iO, iO, tN]
    intro m hm
    by_cases hmh : m < h.length
    · obtain ⟨t, ht⟩ := has_get hmh
      have cm := message_fn t (by have := hwv t (mem_get ht); omega)
      have hse : (h.map encTg).set m (encTg t) = h.map encTg := by rw [← List.map_set, List.set_getElem?_self' ht]
      obtain ⟨t1, t2, t3, t4, t5, tv⟩ := t
      repeat (first | (refine nf1_sound rfl ?_; simp [go_sem, ↓iO, iO, tN, hg, rlk, ht]; (repeat (refine anI ?_)); try (refine ⟨dcK, ?_⟩)) | ((first | refine itePos (by omega) ?_ | refine iteNeg (by omega) ?_); try simp [go_sem, ↓iO, iO, tN, hg, rlk, ht]) | (refine ⟨dcK, ?_⟩))
      refine CallK.fn (cm) [] [] [] (by kernel_rfl) ?_ ?_ ?_ (Or.inl rfl) ?_ <;> simp [go_sem, ↓iO, iO, tN, hg, rlk, ht]
      repeat (refine anI ?_)
      try (refine ⟨dcK, ?_⟩)
      repeat (first | (refine nf1_sound rfl ?_; simp [go_sem, ↓iO, iO, tN, hg, rlk, ht]; (repeat (refine anI ?_)); try (refine ⟨dcK, ?_⟩)) | ((first | refine itePos (by omega) ?_ | refine iteNeg (by omega) ?_); try simp [go_sem, ↓iO, iO, tN, hg, rlk, ht]) | (refine ⟨dcK, ?_⟩))
      rw [RoundQ_normal]; refine ⟨m + 1, [(501, some 501), (502, some 502), (510, some 510), (511, some 511)], ?_, ?_, ?_⟩
      · omega
      · omega
      simp [go_sem, ↓iO, iO, tN]
      exact hse.symm
    · obtain rfl : m = h.length := by omega
      iterate 2 (refine nf1_sound rfl ?_; simp [go_sem, ↓iO, iO, tN]; (repeat (refine anI ?_)); try (refine ⟨dcK, ?_⟩))
      refine CW.closeRow 510 k 511 (.fw [.int st, .int ep, .int nx] 38 6 (h.map encTg)) (us := X) (e := 47) (s := 4) (e' := 38) (s' := 6) (xs := h.map encTg) (ex := [(k, .ag [.t (.int st), .t (.int ep), .t (.int nx), .own 511])]) (by simp [go_sem]) (by simp [go_sem]) (by simp [go_sem]) (by rfl) ?_
      have hset2 : X.set k (.fw [.int st, .int ep, .int nx] 38 6 (h.map encTg)) = R (k + 1) := hset
      rw [hset2]
      repeat (first | (refine nf1_sound rfl ?_; simp [go_sem, ↓iO, iO, tN]; (repeat (refine anI ?_)); try (refine ⟨dcK, ?_⟩)) | ((first | refine itePos (by omega) ?_ | refine iteNeg (by omega) ?_); try simp [go_sem, ↓iO, iO, tN]) | (refine ⟨dcK, ?_⟩))
      rw [RoundQ_normal]; refine ⟨k + 1, [(501, some 501), (502, some 502), (510, some 510)], ?_, ?_, ?_⟩
      · omega
      · omega
      simp [go_sem, ↓iO, iO, tN]
  · obtain rfl : k = l.length := by omega
    repeat (first | (refine nf1_sound rfl ?_; simp [go_sem, ↓iO, iO, tN]; (repeat (refine anI ?_)); try (refine ⟨dcK, ?_⟩)) | ((first | refine itePos (by omega) ?_ | refine iteNeg (by omega) ?_); try simp [go_sem, ↓iO, iO, tN]) | (refine ⟨dcK, ?_⟩))
    first | rw [RetQ_ret] | rw [RetQ_normal]
    refine ⟨[(1000, some 510)], ?_⟩
    simp [go_sem, ↓iO, iO, tN]
end Go.Proofs.Ytopmmodcaoaaeaa
namespace Go.Proofs.Ytopmmodcaoaaeaa
open Go.RowKit Sy
open Go.IntWalk renaming iteOmega → iO, toNatUp → tN
set_option linter.unusedVariables false
set_option linter.unusedSimpArgs false
/-- What Accept computes, for a valid intake. -/
def newA (i : In) (t : Tg) (p : Nat) : In × List Tg × Int :=
  if i.sts.length = 64 then (i, [], 4) else (⟨i.win, i.tail, i.sts.take p ++ (takeV ⟨t.st, t.ep, 0, []⟩ t i.win).1 :: i.sts.drop p⟩, (takeV ⟨t.st, t.ep, 0, []⟩ t i.win).2, 0)
def accA (i : In) (t : Tg) (p : Nat) : In × List Tg × Int :=
  match i.sts[p]? with
  | some w => if w.st = t.st then (⟨i.win, i.tail, i.sts.set p (takeV w t i.win).1⟩, (takeV w t i.win).2, 0) else newA i t p
  | none => newA i t p
def accV (i : In) (t : Tg) : In × List Tg × Int := if TgOk t then accA i t (lb t.st (i.sts.map (·.st))) else (i, [], 3)
theorem held_asc (st ep : Int) : ∀ (la : Int) (l : List Tg), heldOk st ep la l → Asc (keys l) ∧ ∀ x ∈ l, la < x.sq ∧ TgOk x ∧ x.st = st ∧ x.ep = ep
  | _, [], _ => ⟨trivial, by simp⟩
  | la, t :: r, h => by
    rw [held_cons] at h
    obtain ⟨h1, h2, h3, h4, h5⟩ := h
    obtain ⟨h6, h7⟩ := held_asc st ep t.sq r h5
    refine ⟨?_, ?_⟩
    · cases r with
      | nil => trivial
      | cons b r => exact ⟨(h7 b (by simp)).1, h6⟩
    · intro x hx
      rcases List.mem_cons.1 hx with rfl | hx
      · exact ⟨h4, h1, h2, h3⟩
      · have := h7 x hx
        exact ⟨by omega, this.2⟩
theorem asc_of : ∀ (l : List Int), (∀ j a b, l[j]? = some a → l[j + 1]? = some b → a < b) → Asc l
  | [], _ => trivial
  | [_], _ => trivial
  | a :: b :: r, h => ⟨h 0 a b rfl rfl, asc_of (b :: r) fun j x y hx hy => h (j + 1) x y (by simpa using hx) (by simpa using hy)⟩
theorem InOk.asc {i : In} (h : InOk i) : Asc (i.sts.map (·.st)) := by
  refine asc_of _ fun j a b ha hb => ?_
  rw [List.getElem?_map] at ha hb
  cases hj : i.sts[j]? with
  | none => rw [hj] at ha; cases ha
  | some v =>
    cases hj2 : i.sts[j + 1]? with
    | none => rw [hj2] at hb; cases hb
    | some w =>
      rw [hj] at ha; rw [hj2] at hb
      cases ha; cases hb
      exact (h.st (j + 1) w hj2).2 v (by omega) (by simpa using hj)
theorem InOk.take {i : In} (h : InOk i) {j : Nat} {w : Wt} (hw : i.sts[j]? = some w) {t : Tg} (ht : TgOk t) : TkOk w t i.win := by
  obtain ⟨⟨h1, h2, h3, h4, h5, h6, h7, h8⟩, _⟩ := h.st j w hw
  obtain ⟨h9, h10⟩ := held_asc _ _ _ _ h8
  have := h.wn
  have := h.wx
  refine ⟨by omega, h9, by omega, by omega, by omega, fun x hx => ?_, ?_, ?_⟩
  · obtain ⟨g1, g2, _⟩ := h10 x hx
    have := g2.sq
    omega
  · have := ht.sq; omega
  · have := ht.sq; omega
theorem InOk.take0 {i : In} (h : InOk i) {t : Tg} (ht : TgOk t) : TkOk ⟨t.st, t.ep, 0, []⟩ t i.win := by
  have := h.wn
  refine ⟨by simp, trivial, by omega, by simp, by simp, by simp, ?_, ?_⟩
  · have := ht.sq; omega
  · have := ht.sq; omega
/-- What is known of an intake that Accept is called with. -/
structure Sized (i : In) : Prop where
  tl : i.tail.length ≤ 1000000
  sl : i.sts.length ≤ 1000000
  u8 : ∀ c ∈ i.tail, c < 256
  hl : ∀ w ∈ i.sts, w.held.length ≤ 1000000 ∧ ∀ t ∈ w.held, t.vs.length ≤ 1000000
theorem Sized.mod {i : In} (h : Sized i) : ∀ w ∈ i.sts, Mod w := fun w hw => ⟨(h.hl w hw).1, fun t ht => by have := (h.hl w hw).2 t ht; omega⟩
@[go_sem] def resA (r : In × List Tg × Int) : S := .tup [.t (encIn r.1), .t (encTgs r.2.1), .t (.int r.2.2)]
set_option maxRecDepth 100000 in
set_option maxHeartbeats 8000000 in
theorem accept_fn (i : In) (t : Tg) (hi : Sized i) (ht : t.vs.length ≤ 1000000) (ho : InOk i) : FnOk Try.prog 13 [.t (encIn i), .t (encTg t)] [] (resA (accV i t)) [] := by
  have cc := copied_fn i hi.tl hi.sl hi.hl
  have cv := invalid_fn i hi.tl hi.sl hi.u8 hi.mod true ⟨fun _ => ho, fun _ => rfl⟩
  have ha := ho.asc
  have hl64 : i.sts.length ≤ 64 := by have := ho.sl; omega
  have htk := fun (j : Nat) (w : Wt) (hw : i.sts[j]? = some w) (h : TgOk t) => ho.take hw h
  have htk0 := fun (h : TgOk t) => ho.take0 h
  clear ho
  unfold accV
  by_cases hn : TgOk t
  · rw [if_pos hn]
    obtain ⟨p, hp⟩ : ∃ p, lb t.st (i.sts.map (·.st)) = p := ⟨_, rfl⟩
    rw [hp]
    by_cases hk : (i.sts.map (·.st))[p]? = some t.st
    · rw [List.getElem?_map] at hk
      cases hw : i.sts[p]? with
      | none => rw [hw] at hk; cases hk
      | some w =>
        rw [hw] at hk
        have hws : w.st = t.st := by simpa using hk
        have c := acceptKnown_fn i.win i.tail i.sts t ht hn hl64 ha p hp w hw hws (htk p w hw hn)
        unfold accA
        rw [hw]
        dsimp only
        rw [if_pos hws]
        obtain ⟨o, hO⟩ : ∃ o, (takeV w t i.win).2 = o := ⟨_, rfl⟩
        obtain ⟨L, hL⟩ : ∃ L, i.sts.set p (takeV w t i.win).1 = L := ⟨_, rfl⟩
        rw [hO, hL] at c
        rw [hO, hL]
        obtain ⟨win, tail, sts⟩ := i
        dsimp only at *
        refine FnOk.intro fact_mixed Try.func13 rfl Try.ntmps13 (by rfl) (by simp) ?_
        repeat (first | (refine nf1_sound rfl ?_; simp [go_sem, ↓iO, iO, tN]; (repeat (refine anI ?_)); try (refine ⟨dcK, ?_⟩)) | ((first | refine itePos (by omega) ?_ | refine iteNeg (by omega) ?_); try simp [go_sem, ↓iO, iO, tN]) | (refine ⟨dcK, ?_⟩))
        refine CallK.fn (cc) [(1000, 600)] [] [] (by kernel_rfl) ?_ ?_ ?_ (Or.inl rfl) ?_ <;> simp [go_sem, ↓iO, iO, tN]
        repeat (refine anI ?_)
        try (refine ⟨dcK, ?_⟩)
        repeat (first | (refine nf1_sound rfl ?_; simp [go_sem, ↓iO, iO, tN]; (repeat (refine anI ?_)); try (refine ⟨dcK, ?_⟩)) | ((first | refine itePos (by omega) ?_ | refine iteNeg (by omega) ?_); try simp [go_sem, ↓iO, iO, tN]) | (refine ⟨dcK, ?_⟩))
        refine CallK.fn (cv) [] [] [] (by kernel_rfl) ?_ ?_ ?_ (Or.inl rfl) ?_ <;> simp [go_sem, ↓iO, iO, tN]
        repeat (refine anI ?_)
        try (refine ⟨dcK, ?_⟩)
        repeat (first | (refine nf1_sound rfl ?_; simp [go_sem, ↓iO, iO, tN]; (repeat (refine anI ?_)); try (refine ⟨dcK, ?_⟩)) | ((first | refine itePos (by omega) ?_ | refine iteNeg (by omega) ?_); try simp [go_sem, ↓iO, iO, tN]) | (refine ⟨dcK, ?_⟩))
        refine CallK.fn (c) [(1, 107), (2, 600)] [] [] (by kernel_rfl) ?_ ?_ ?_ (Or.inl rfl) ?_ <;> simp [go_sem, ↓iO, iO, tN]
        repeat (refine anI ?_)
        try (refine ⟨dcK, ?_⟩)
        repeat (first | (refine nf1_sound rfl ?_; simp [go_sem, ↓iO, iO, tN]; (repeat (refine anI ?_)); try (refine ⟨dcK, ?_⟩)) | ((first | refine itePos (by omega) ?_ | refine iteNeg (by omega) ?_); try simp [go_sem, ↓iO, iO, tN]) | (refine ⟨dcK, ?_⟩))
        first | rw [RetQ_ret] | rw [RetQ_normal]
        refine ⟨[], ?_⟩
        simp [go_sem, ↓iO, iO, tN, toT_uWt]
    · have hnew : accA i t p = newA i t p := by
        unfold accA
        cases hw : i.sts[p]? with
        | none => rfl
        | some w =>
          rw [List.getElem?_map, hw] at hk
          dsimp only
          rw [if_neg (by simpa using hk)]
      rw [hnew]
      unfold newA
      by_cases h64 : i.sts.length = 64
      · rw [if_pos h64]
        have c := acceptFull_fn i.win i.tail i.sts t ht hn h64 ha (by rw [hp]; exact hk)
        obtain ⟨win, tail, sts⟩ := i
        dsimp only at *
        refine FnOk.intro fact_mixed Try.func13 rfl Try.ntmps13 (by rfl) (by simp) ?_
        repeat (first | (refine nf1_sound rfl ?_; simp [go_sem, ↓iO, iO, tN]; (repeat (refine anI ?_)); try (refine ⟨dcK, ?_⟩)) | ((first | refine itePos (by omega) ?_ | refine iteNeg (by omega) ?_); try simp [go_sem, ↓iO, iO, tN]) | (refine ⟨dcK, ?_⟩))
        refine CallK.fn (cc) [(1000, 600)] [] [] (by kernel_rfl) ?_ ?_ ?_ (Or.inl rfl) ?_ <;> simp [go_sem, ↓iO, iO, tN]
        repeat (refine anI ?_)
        try (refine ⟨dcK, ?_⟩)
        repeat (first | (refine nf1_sound rfl ?_; simp [go_sem, ↓iO, iO, tN]; (repeat (refine anI ?_)); try (refine ⟨dcK, ?_⟩)) | ((first | refine itePos (by omega) ?_ | refine iteNeg (by omega) ?_); try simp [go_sem, ↓iO, iO, tN]) | (refine ⟨dcK, ?_⟩))
        refine CallK.fn (cv) [] [] [] (by kernel_rfl) ?_ ?_ ?_ (Or.inl rfl) ?_ <;> simp [go_sem, ↓iO, iO, tN]
        repeat (refine anI ?_)
        try (refine ⟨dcK, ?_⟩)
        repeat (first | (refine nf1_sound rfl ?_; simp [go_sem, ↓iO, iO, tN]; (repeat (refine anI ?_)); try (refine ⟨dcK, ?_⟩)) | ((first | refine itePos (by omega) ?_ | refine iteNeg (by omega) ?_); try simp [go_sem, ↓iO, iO, tN]) | (refine ⟨dcK, ?_⟩))
        refine CallK.fn (c) [(1, 107), (2, 600)] [] [] (by kernel_rfl) ?_ ?_ ?_ (Or.inl rfl) ?_ <;> simp [go_sem, ↓iO, iO, tN]
        repeat (refine anI ?_)
        try (refine ⟨dcK, ?_⟩)
        repeat (first | (refine nf1_sound rfl ?_; simp [go_sem, ↓iO, iO, tN]; (repeat (refine anI ?_)); try (refine ⟨dcK, ?_⟩)) | ((first | refine itePos (by omega) ?_ | refine iteNeg (by omega) ?_); try simp [go_sem, ↓iO, iO, tN]) | (refine ⟨dcK, ?_⟩))
        first | rw [RetQ_ret] | rw [RetQ_normal]
        refine ⟨[], ?_⟩
        simp [go_sem, ↓iO, iO, tN, toT_uWt]
      · rw [if_neg h64]
        have c := acceptNew_fn i.win i.tail i.sts t ht hn (by omega) ha p hp hk (htk0 hn)
        obtain ⟨o, hO⟩ : ∃ o, (takeV ⟨t.st, t.ep, 0, []⟩ t i.win).2 = o := ⟨_, rfl⟩
        obtain ⟨L, hL⟩ : ∃ L, i.sts.take p ++ (takeV ⟨t.st, t.ep, 0, []⟩ t i.win).1 :: i.sts.drop p = L := ⟨_, rfl⟩
        rw [hO, hL] at c
        rw [hO, hL]
        obtain ⟨win, tail, sts⟩ := i
        dsimp only at *
        refine FnOk.intro fact_mixed Try.func13 rfl Try.ntmps13 (by rfl) (by simp) ?_
        repeat (first | (refine nf1_sound rfl ?_; simp [go_sem, ↓iO, iO, tN]; (repeat (refine anI ?_)); try (refine ⟨dcK, ?_⟩)) | ((first | refine itePos (by omega) ?_ | refine iteNeg (by omega) ?_); try simp [go_sem, ↓iO, iO, tN]) | (refine ⟨dcK, ?_⟩))
        refine CallK.fn (cc) [(1000, 600)] [] [] (by kernel_rfl) ?_ ?_ ?_ (Or.inl rfl) ?_ <;> simp [go_sem, ↓iO, iO, tN]
        repeat (refine anI ?_)
        try (refine ⟨dcK, ?_⟩)
        repeat (first | (refine nf1_sound rfl ?_; simp [go_sem, ↓iO, iO, tN]; (repeat (refine anI ?_)); try (refine ⟨dcK, ?_⟩)) | ((first | refine itePos (by omega) ?_ | refine iteNeg (by omega) ?_); try simp [go_sem, ↓iO, iO, tN]) | (refine ⟨dcK, ?_⟩))
        refine CallK.fn (cv) [] [] [] (by kernel_rfl) ?_ ?_ ?_ (Or.inl rfl) ?_ <;> simp [go_sem, ↓iO, iO, tN]
        repeat (refine anI ?_)
        try (refine ⟨dcK, ?_⟩)
        repeat (first | (refine nf1_sound rfl ?_; simp [go_sem, ↓iO, iO, tN]; (repeat (refine anI ?_)); try (refine ⟨dcK, ?_⟩)) | ((first | refine itePos (by omega) ?_ | refine iteNeg (by omega) ?_); try simp [go_sem, ↓iO, iO, tN]) | (refine ⟨dcK, ?_⟩))
        refine CallK.fn (c) [(1, 107), (2, 600), (1000, 601)] [] [] (by kernel_rfl) ?_ ?_ ?_ (Or.inl rfl) ?_ <;> simp [go_sem, ↓iO, iO, tN]
        repeat (refine anI ?_)
        try (refine ⟨dcK, ?_⟩)
        repeat (first | (refine nf1_sound rfl ?_; simp [go_sem, ↓iO, iO, tN]; (repeat (refine anI ?_)); try (refine ⟨dcK, ?_⟩)) | ((first | refine itePos (by omega) ?_ | refine iteNeg (by omega) ?_); try simp [go_sem, ↓iO, iO, tN]) | (refine ⟨dcK, ?_⟩))
        first | rw [RetQ_ret] | rw [RetQ_normal]
        refine ⟨[], ?_⟩
        simp [go_sem, ↓iO, iO, tN, toT_uWt]
  · rw [if_neg hn]
    have c := acceptBad_fn i.win i.tail i.sts t ht hn
    obtain ⟨win, tail, sts⟩ := i
    dsimp only at *
    refine FnOk.intro fact_mixed Try.func13 rfl Try.ntmps13 (by rfl) (by simp) ?_
    repeat (first | (refine nf1_sound rfl ?_; simp [go_sem, ↓iO, iO, tN]; (repeat (refine anI ?_)); try (refine ⟨dcK, ?_⟩)) | ((first | refine itePos (by omega) ?_ | refine iteNeg (by omega) ?_); try simp [go_sem, ↓iO, iO, tN]) | (refine ⟨dcK, ?_⟩))
    refine CallK.fn (cc) [(1000, 600)] [] [] (by kernel_rfl) ?_ ?_ ?_ (Or.inl rfl) ?_ <;> simp [go_sem, ↓iO, iO, tN]
    repeat (refine anI ?_)
    try (refine ⟨dcK, ?_⟩)
    repeat (first | (refine nf1_sound rfl ?_; simp [go_sem, ↓iO, iO, tN]; (repeat (refine anI ?_)); try (refine ⟨dcK, ?_⟩)) | ((first | refine itePos (by omega) ?_ | refine iteNeg (by omega) ?_); try simp [go_sem, ↓iO, iO, tN]) | (refine ⟨dcK, ?_⟩))
    refine CallK.fn (cv) [] [] [] (by kernel_rfl) ?_ ?_ ?_ (Or.inl rfl) ?_ <;> simp [go_sem, ↓iO, iO, tN]
    repeat (refine anI ?_)
    try (refine ⟨dcK, ?_⟩)
    repeat (first | (refine nf1_sound rfl ?_; simp [go_sem, ↓iO, iO, tN]; (repeat (refine anI ?_)); try (refine ⟨dcK, ?_⟩)) | ((first | refine itePos (by omega) ?_ | refine iteNeg (by omega) ?_); try simp [go_sem, ↓iO, iO, tN]) | (refine ⟨dcK, ?_⟩))
    refine CallK.fn (c) [(1, 107), (2, 600)] [] [] (by kernel_rfl) ?_ ?_ ?_ (Or.inl rfl) ?_ <;> simp [go_sem, ↓iO, iO, tN]
    repeat (refine anI ?_)
    try (refine ⟨dcK, ?_⟩)
    repeat (first | (refine nf1_sound rfl ?_; simp [go_sem, ↓iO, iO, tN]; (repeat (refine anI ?_)); try (refine ⟨dcK, ?_⟩)) | ((first | refine itePos (by omega) ?_ | refine iteNeg (by omega) ?_); try simp [go_sem, ↓iO, iO, tN]) | (refine ⟨dcK, ?_⟩))
    first | rw [RetQ_ret] | rw [RetQ_normal]
    refine ⟨[], ?_⟩
    simp [go_sem, ↓iO, iO, tN, toT_uWt]
set_option maxRecDepth 100000 in
set_option maxHeartbeats 8000000 in
theorem acceptNo_fn (i : In) (t : Tg) (hi : Sized i) (ho : ¬ InOk i) : FnOk Try.prog 13 [.t (encIn i), .t (encTg t)] [] (resA (i, [], 9)) [] := by
  have cc := copied_fn i hi.tl hi.sl hi.hl
  have cv := invalid_fn i hi.tl hi.sl hi.u8 hi.mod false ⟨(fun h => by cases h), (fun h => (ho h).elim)⟩
  obtain ⟨win, tail, sts⟩ := i
  refine FnOk.intro fact_mixed Try.func13 rfl Try.ntmps13 (by rfl) (by simp) ?_
  repeat (first | (refine nf1_sound rfl ?_; simp [go_sem, ↓iO, iO, tN]; (repeat (refine anI ?_)); try (refine ⟨dcK, ?_⟩)) | ((first | refine itePos (by omega) ?_ | refine iteNeg (by omega) ?_); try simp [go_sem, ↓iO, iO, tN]) | (refine ⟨dcK, ?_⟩))
  refine CallK.fn (cc) [(1000, 600)] [] [] (by kernel_rfl) ?_ ?_ ?_ (Or.inl rfl) ?_ <;> simp [go_sem, ↓iO, iO, tN]
  repeat (refine anI ?_)
  try (refine ⟨dcK, ?_⟩)
  repeat (first | (refine nf1_sound rfl ?_; simp [go_sem, ↓iO, iO, tN]; (repeat (refine anI ?_)); try (refine ⟨dcK, ?_⟩)) | ((first | refine itePos (by omega) ?_ | refine iteNeg (by omega) ?_); try simp [go_sem, ↓iO, iO, tN]) | (refine ⟨dcK, ?_⟩))
  refine CallK.fn (cv) [] [] [] (by kernel_rfl) ?_ ?_ ?_ (Or.inl rfl) ?_ <;> simp [go_sem, ↓iO, iO, tN]
  repeat (refine anI ?_)
  try (refine ⟨dcK, ?_⟩)
  repeat (first | (refine nf1_sound rfl ?_; simp [go_sem, ↓iO, iO, tN]; (repeat (refine anI ?_)); try (refine ⟨dcK, ?_⟩)) | ((first | refine itePos (by omega) ?_ | refine iteNeg (by omega) ?_); try simp [go_sem, ↓iO, iO, tN]) | (refine ⟨dcK, ?_⟩))
  first | rw [RetQ_ret] | rw [RetQ_normal]
  refine ⟨[], ?_⟩
  simp [go_sem, ↓iO, iO, tN, toT_uWt]
end Go.Proofs.Ytopmmodcaoaaeaa
