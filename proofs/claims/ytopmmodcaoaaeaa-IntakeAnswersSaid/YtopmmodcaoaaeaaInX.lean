/- The reference's Take, Accept, Frames and Feed of an intake; the law's state. No condition. -/
import Derived.Test.YtopmmodcaoaaeaaInV
import Derived.Test.YtopmmodcaoaaeaaInK
import Derived.Test.YtopmmodcaoaaeaaTgM
namespace Go.Proofs.Ytopmmodcaoaaeaa
open Go.RowKit Sy
open Go.IntWalk renaming iteOmega → iO, toNatUp → tN
set_option linter.unusedVariables false
set_option linter.unusedSimpArgs false
set_option maxRecDepth 100000 in
set_option maxHeartbeats 8000000 in
theorem rtakeN_few (w : Wt) (t : Tg) (win : Int) (hw : w.held.length ≤ 100000) (he : w.ep < t.ep) (z : Wt) (hz : gvW ⟨w.st, t.ep, 0, [t]⟩ = z) (hf : ¬ win < (z.held.length : Int)) : FnOk Try.prog 42 [.t (encWt w), .t (encTg t), .t (.int win)] [] (.tup [.t (encWt z), .own 1000]) [(1000, blkTgs (w.held ++ gvL ⟨w.st, t.ep, 0, [t]⟩))] := by
  obtain ⟨st, ep, nx, l⟩ := w
  obtain ⟨t1, t2, t3, t4, t5, tv⟩ := t
  dsimp only at *
  have c := rgive_fn ⟨st, t2, 0, [⟨t1, t2, t3, t4, t5, tv⟩]⟩ l (by simp) (by omega) (by simp) (by simp) _ rfl
  have hz' := hz
  unfold gvW at hz'
  dsimp only at hz' c
  rw [hz'] at c
  have hne : ¬ t2 = ep := by omega
  refine FnOk.intro fact_mixed Try.func42 rfl Try.ntmps42 (by rfl) (by simp) ?_
  repeat (first | (refine nf1_sound rfl ?_; simp [go_sem, ↓iO, iO, tN, hne]; (repeat (refine anI ?_)); try (refine ⟨dcK, ?_⟩)) | ((first | refine itePos (by omega) ?_ | refine iteNeg (by omega) ?_); try simp [go_sem, ↓iO, iO, tN, hne]) | (refine ⟨dcK, ?_⟩))
  refine nf1_sound' _ _ _ ?_; simp only [nf1]
  refine CW.loop (ι := Nat) (fun k => ⟨[(2, .t (.int win)), (3, .pt 503 [] 0), (4, .pt 504 [] 0), (6, .pt 506 [] 0), (8, .own 508), (9, .t (.int k))], [(503, .box 47 (.t (.agg [.int st, .int t2, .int 0, encTgs []]))), (504, .box 38 (.t (.agg [.int t1, .int t2, .int t3, .int t4, .int t5, encIs tv]))), (506, .box 47 (.t (.agg [.int 0, .int 0, .int 0, .nil]))), (508, blkTgs l)]⟩) (fun k => k = 0) (fun k => 0) 0 [(503, some 103), (504, some 104), (506, some 106), (508, some 138)] rfl ?_ ?_
  · simp [go_sem, ↓iO, iO, tN]
  rintro k rfl
  repeat (first | (refine nf1_sound rfl ?_; simp [go_sem, ↓iO, iO, tN]; (repeat (refine anI ?_)); try (refine ⟨dcK, ?_⟩)) | ((first | refine itePos (by omega) ?_ | refine iteNeg (by omega) ?_); try simp [go_sem, ↓iO, iO, tN]) | (refine ⟨dcK, ?_⟩))
  refine CallK.fn (c) [(1, 508), (1000, 509)] [] [192] (by kernel_rfl) ?_ ?_ ?_ (Or.inl rfl) ?_ <;> simp [go_sem, ↓iO, iO, tN]
  repeat (refine anI ?_)
  try (refine ⟨dcK, ?_⟩)
  repeat (first | (refine nf1_sound rfl ?_; simp [go_sem, ↓iO, iO, tN, hf]; (repeat (refine anI ?_)); try (refine ⟨dcK, ?_⟩)) | ((first | refine itePos (by omega) ?_ | refine iteNeg (by omega) ?_); try simp [go_sem, ↓iO, iO, tN, hf]) | (refine ⟨dcK, ?_⟩))
  first | rw [RetQ_ret] | rw [RetQ_normal]
  refine ⟨[(1000, some 509)], ?_⟩
  simp [go_sem, ↓iO, iO, tN]
  simp [gvL, encTg, encIs]
set_option maxRecDepth 100000 in
set_option maxHeartbeats 8000000 in
theorem rtakeN_many (w : Wt) (t : Tg) (win : Int) (hw : w.held.length ≤ 100000) (he : w.ep < t.ep) (zs ze zn : Int) (x : Tg) (r : List Tg) (hz : gvW ⟨w.st, t.ep, 0, [t]⟩ = ⟨zs, ze, zn, x :: r⟩) (hf : win < ((r.length + 1 : Nat) : Int)) (hr : r.length ≤ 100000) (hs0 : 0 ≤ x.sq) (hs1 : x.sq ≤ 1000000000000) (G : List Tg) (hG : w.held ++ gvL ⟨w.st, t.ep, 0, [t]⟩ = G) (hGl : G.length ≤ 1000000) (m : Nat) (hm : giveN x.sq (x :: r) = m) : FnOk Try.prog 42 [.t (encWt w), .t (encTg t), .t (.int win)] [] (.tup [.t (encWt ⟨zs, ze, x.sq + m, (x :: r).drop m⟩), .own 1000]) [(1000, blkTgs (G ++ (x :: r).take m))] := by
  obtain ⟨st, ep, nx, l⟩ := w
  obtain ⟨t1, t2, t3, t4, t5, tv⟩ := t
  dsimp only at *
  have c := rgive_fn ⟨st, t2, 0, [⟨t1, t2, t3, t4, t5, tv⟩]⟩ l (by simp) (by omega) (by simp) (by simp) _ rfl
  have hz' := hz
  unfold gvW at hz'
  dsimp only at hz' c
  rw [hz'] at c
  have hG' := hG
  unfold gvL at hG'
  dsimp only at hG'
  rw [hG'] at c
  have c2 := rgive_fn ⟨zs, ze, x.sq, x :: r⟩ G (by simp; omega) hGl hs0 hs1 m hm
  have hne : ¬ t2 = ep := by omega
  refine FnOk.intro fact_mixed Try.func42 rfl Try.ntmps42 (by rfl) (by simp) ?_
  repeat (first | (refine nf1_sound rfl ?_; simp [go_sem, ↓iO, iO, tN, hne]; (repeat (refine anI ?_)); try (refine ⟨dcK, ?_⟩)) | ((first | refine itePos (by omega) ?_ | refine iteNeg (by omega) ?_); try simp [go_sem, ↓iO, iO, tN, hne]) | (refine ⟨dcK, ?_⟩))
  refine nf1_sound' _ _ _ ?_; simp only [nf1]
  refine CW.loop (ι := Nat) (fun k => ⟨[(2, .t (.int win)), (3, .pt 503 [] 0), (4, .pt 504 [] 0), (6, .pt 506 [] 0), (8, .own 508), (9, .t (.int k))], [(503, .box 47 (.t (.agg [.int st, .int t2, .int 0, encTgs []]))), (504, .box 38 (.t (.agg [.int t1, .int t2, .int t3, .int t4, .int t5, encIs tv]))), (506, .box 47 (.t (.agg [.int 0, .int 0, .int 0, .nil]))), (508, blkTgs l)]⟩) (fun k => k = 0) (fun k => 0) 0 [(503, some 103), (504, some 104), (506, some 106), (508, some 138)] rfl ?_ ?_
  · simp [go_sem, ↓iO, iO, tN]
  rintro k rfl
  repeat (first | (refine nf1_sound rfl ?_; simp [go_sem, ↓iO, iO, tN]; (repeat (refine anI ?_)); try (refine ⟨dcK, ?_⟩)) | ((first | refine itePos (by omega) ?_ | refine iteNeg (by omega) ?_); try simp [go_sem, ↓iO, iO, tN]) | (refine ⟨dcK, ?_⟩))
  refine CallK.fn (c) [(1, 508), (1000, 509)] [] [192] (by kernel_rfl) ?_ ?_ ?_ (Or.inl rfl) ?_ <;> simp [go_sem, ↓iO, iO, tN]
  repeat (refine anI ?_)
  try (refine ⟨dcK, ?_⟩)
  repeat (first | (refine nf1_sound rfl ?_; simp [go_sem, ↓iO, iO, tN]; (repeat (refine anI ?_)); try (refine ⟨dcK, ?_⟩)) | ((first | refine itePos (by omega) ?_ | refine iteNeg (by omega) ?_); try simp [go_sem, ↓iO, iO, tN]) | (refine ⟨dcK, ?_⟩))
  refine CallK.fn (c2) [(1, 509), (1000, 510)] [] [] (by kernel_rfl) ?_ ?_ ?_ (Or.inl rfl) ?_ <;> simp [go_sem, ↓iO, iO, tN]
  repeat (refine anI ?_)
  try (refine ⟨dcK, ?_⟩)
  repeat (first | (refine nf1_sound rfl ?_; simp [go_sem, ↓iO, iO, tN]; (repeat (refine anI ?_)); try (refine ⟨dcK, ?_⟩)) | ((first | refine itePos (by omega) ?_ | refine iteNeg (by omega) ?_); try simp [go_sem, ↓iO, iO, tN]) | (refine ⟨dcK, ?_⟩))
  first | rw [RetQ_ret] | rw [RetQ_normal]
  refine ⟨[(1000, some 510)], ?_⟩
  simp [go_sem, ↓iO, iO, tN]
set_option maxRecDepth 100000 in
set_option maxHeartbeats 8000000 in
theorem rtakeC_few (w : Wt) (t : Tg) (win : Int) (hw : w.held.length ≤ 100000) (he : t.ep = w.ep) (hq : ¬ t.sq < w.nx) (h0 : 0 ≤ w.nx) (h1 : w.nx ≤ 1000000000000) (p : Nat) (hp : lb t.sq (keys w.held) = p) (hx : ∀ x, w.held[p]? = some x → x.sq ≠ t.sq) (z : Wt) (hz : gvW ⟨w.st, w.ep, w.nx, w.held.take p ++ [t] ++ w.held.drop p⟩ = z) (hf : ¬ win < (z.held.length : Int)) : FnOk Try.prog 42 [.t (encWt w), .t (encTg t), .t (.int win)] [] (.tup [.t (encWt z), .own 1000]) [(1000, blkTgs (gvL ⟨w.st, w.ep, w.nx, w.held.take p ++ [t] ++ w.held.drop p⟩))] := by
  obtain ⟨st, ep, nx, l⟩ := w
  obtain ⟨t1, t2, t3, t4, t5, tv⟩ := t
  dsimp only at *
  subst he
  have hlt : ∀ k, k < p → ∃ y, l[k]? = some y ∧ y.sq < t3 := fun k hk => lb_lt t3 l (by omega)
  have hend : ∀ y, l[p]? = some y → ¬ y.sq < t3 := fun y hy => by subst hp; exact lb_end t3 l hy
  have hpl : p ≤ l.length := by subst hp; exact lb_len t3 l
  clear hp
  have c := rgive0_fn ⟨st, t2, nx, l.take p ++ [⟨t1, t2, t3, t4, t5, tv⟩] ++ l.drop p⟩ (by simp; omega) h0 (by dsimp only; omega) _ rfl
  have htk : List.take l.length (l.map encTg) = l.map encTg := List.take_of_length_le (by simp)
  have hz' := hz
  unfold gvW at hz'
  dsimp only at hz' c
  rw [hz'] at c
  refine FnOk.intro fact_mixed Try.func42 rfl Try.ntmps42 (by rfl) (by simp) ?_
  repeat (first | (refine nf1_sound rfl ?_; simp [go_sem, ↓iO, iO, tN]; (repeat (refine anI ?_)); try (refine ⟨dcK, ?_⟩)) | ((first | refine itePos (by omega) ?_ | refine iteNeg (by omega) ?_); try simp [go_sem, ↓iO, iO, tN]) | (refine ⟨dcK, ?_⟩))
  refine nf1_sound' _ _ _ ?_; simp only [nf1]
  refine CW.loop (ι := Nat) (fun k => ⟨[(2, .t (.int win)), (3, .pt 503 [] 0), (4, .pt 504 [] 0), (6, .pt 506 [] 0), (8, .t .nil), (9, .t (.int k))], [(503, .box 47 (.t (.agg [.int st, .int t2, .int nx, encTgs l]))), (504, .box 38 (.t (.agg [.int t1, .int t2, .int t3, .int t4, .int t5, encIs tv]))), (506, .box 47 (.t (.agg [.int 0, .int 0, .int 0, .nil])))]⟩) (fun k => k ≤ p) (fun k => p - k) 0 [(503, some 103), (504, some 104), (506, some 106)] (by omega) ?_ ?_
  · simp [go_sem, ↓iO, iO, tN]
  intro k hk
  by_cases hkp : k < p
  · obtain ⟨y, hy, hys⟩ := hlt k hkp
    have hkl : k < l.length := by omega
    repeat (first | (refine nf1_sound rfl ?_; simp [go_sem, ↓iO, iO, tN, hy]; (repeat (refine anI ?_)); try (refine ⟨dcK, ?_⟩)) | ((first | refine itePos (by omega) ?_ | refine iteNeg (by omega) ?_); try simp [go_sem, ↓iO, iO, tN, hy]) | (refine ⟨dcK, ?_⟩))
    rw [RoundQ_normal]; refine ⟨k + 1, [(503, some 503), (504, some 504), (506, some 506)], ?_, ?_, ?_⟩
    · omega
    · omega
    simp [go_sem, ↓iO, iO, tN]
  · obtain rfl : k = p := by omega
    by_cases hkl : k < l.length
    · obtain ⟨y, hy⟩ := has_get hkl
      have hy1 := hend y hy
      have hy2 := hx y hy
      have hy3 : ¬ y.sq = t3 := hy2
      repeat (first | (refine nf1_sound rfl ?_; simp [go_sem, ↓iO, iO, tN, hy, hy3, htk]; (repeat (refine anI ?_)); try (refine ⟨dcK, ?_⟩)) | ((first | refine itePos (by omega) ?_ | refine iteNeg (by omega) ?_); try simp [go_sem, ↓iO, iO, tN, hy, hy3, htk]) | (refine ⟨dcK, ?_⟩))
      refine CallK.fn (c) [(1000, 509)] [] [192] (by kernel_rfl) ?_ ?_ ?_ (Or.inl rfl) ?_ <;> simp [go_sem, ↓iO, iO, tN, htk]
      repeat (refine anI ?_)
      try (refine ⟨dcK, ?_⟩)
      repeat (first | (refine nf1_sound rfl ?_; simp [go_sem, ↓iO, iO, tN, hf]; (repeat (refine anI ?_)); try (refine ⟨dcK, ?_⟩)) | ((first | refine itePos (by omega) ?_ | refine iteNeg (by omega) ?_); try simp [go_sem, ↓iO, iO, tN, hf]) | (refine ⟨dcK, ?_⟩))
      first | rw [RetQ_ret] | rw [RetQ_normal]
      refine ⟨[(1000, some 509)], ?_⟩
      simp [go_sem, ↓iO, iO, tN]
      simp [gvL, List.map_take, List.map_drop, encTg, encIs]
    · repeat (first | (refine nf1_sound rfl ?_; simp [go_sem, ↓iO, iO, tN, hkl, htk]; (repeat (refine anI ?_)); try (refine ⟨dcK, ?_⟩)) | ((first | refine itePos (by omega) ?_ | refine iteNeg (by omega) ?_); try simp [go_sem, ↓iO, iO, tN, hkl, htk]) | (refine ⟨dcK, ?_⟩))
      refine CallK.fn (c) [(1000, 509)] [] [192] (by kernel_rfl) ?_ ?_ ?_ (Or.inl rfl) ?_ <;> simp [go_sem, ↓iO, iO, tN, htk]
      repeat (refine anI ?_)
      try (refine ⟨dcK, ?_⟩)
      repeat (first | (refine nf1_sound rfl ?_; simp [go_sem, ↓iO, iO, tN, hf]; (repeat (refine anI ?_)); try (refine ⟨dcK, ?_⟩)) | ((first | refine itePos (by omega) ?_ | refine iteNeg (by omega) ?_); try simp [go_sem, ↓iO, iO, tN, hf]) | (refine ⟨dcK, ?_⟩))
      first | rw [RetQ_ret] | rw [RetQ_normal]
      refine ⟨[(1000, some 509)], ?_⟩
      simp [go_sem, ↓iO, iO, tN]
      simp [gvL, List.map_take, List.map_drop, encTg, encIs]
set_option maxRecDepth 100000 in
set_option maxHeartbeats 8000000 in
theorem rtakeC_many (w : Wt) (t : Tg) (win : Int) (hw : w.held.length ≤ 100000) (he : t.ep = w.ep) (hq : ¬ t.sq < w.nx) (h0 : 0 ≤ w.nx) (h1 : w.nx ≤ 1000000000000) (p : Nat) (hp : lb t.sq (keys w.held) = p) (hx : ∀ x, w.held[p]? = some x → x.sq ≠ t.sq) (zs ze zn : Int) (x : Tg) (r : List Tg) (hz : gvW ⟨w.st, w.ep, w.nx, w.held.take p ++ [t] ++ w.held.drop p⟩ = ⟨zs, ze, zn, x :: r⟩) (hf : win < ((r.length + 1 : Nat) : Int)) (hr : r.length ≤ 100000) (hs0 : 0 ≤ x.sq) (hs1 : x.sq ≤ 1000000000000) (G : List Tg) (hG : gvL ⟨w.st, w.ep, w.nx, w.held.take p ++ [t] ++ w.held.drop p⟩ = G) (hGl : G.length ≤ 1000000) (m : Nat) (hm : giveN x.sq (x :: r) = m) : FnOk Try.prog 42 [.t (encWt w), .t (encTg t), .t (.int win)] [] (.tup [.t (encWt ⟨zs, ze, x.sq + m, (x :: r).drop m⟩), .own 1000]) [(1000, blkTgs (G ++ (x :: r).take m))] := by
  obtain ⟨st, ep, nx, l⟩ := w
  obtain ⟨t1, t2, t3, t4, t5, tv⟩ := t
  dsimp only at *
  subst he
  have hlt : ∀ k, k < p → ∃ y, l[k]? = some y ∧ y.sq < t3 := fun k hk => lb_lt t3 l (by omega)
  have hend : ∀ y, l[p]? = some y → ¬ y.sq < t3 := fun y hy => by subst hp; exact lb_end t3 l hy
  have hpl : p ≤ l.length := by subst hp; exact lb_len t3 l
  clear hp
  have c := rgive0_fn ⟨st, t2, nx, l.take p ++ [⟨t1, t2, t3, t4, t5, tv⟩] ++ l.drop p⟩ (by simp; omega) h0 (by dsimp only; omega) _ rfl
  have htk : List.take l.length (l.map encTg) = l.map encTg := List.take_of_length_le (by simp)
  have hz' := hz
  unfold gvW at hz'
  dsimp only at hz' c
  rw [hz'] at c
  have hG' := hG
  unfold gvL at hG'
  dsimp only at hG'
  rw [hG'] at c
  have c2 := rgive_fn ⟨zs, ze, x.sq, x :: r⟩ G (by simp; omega) hGl hs0 hs1 m hm
  refine FnOk.intro fact_mixed Try.func42 rfl Try.ntmps42 (by rfl) (by simp) ?_
  repeat (first | (refine nf1_sound rfl ?_; simp [go_sem, ↓iO, iO, tN]; (repeat (refine anI ?_)); try (refine ⟨dcK, ?_⟩)) | ((first | refine itePos (by omega) ?_ | refine iteNeg (by omega) ?_); try simp [go_sem, ↓iO, iO, tN]) | (refine ⟨dcK, ?_⟩))
  refine nf1_sound' _ _ _ ?_; simp only [nf1]
  refine CW.loop (ι := Nat) (fun k => ⟨[(2, .t (.int win)), (3, .pt 503 [] 0), (4, .pt 504 [] 0), (6, .pt 506 [] 0), (8, .t .nil), (9, .t (.int k))], [(503, .box 47 (.t (.agg [.int st, .int t2, .int nx, encTgs l]))), (504, .box 38 (.t (.agg [.int t1, .int t2, .int t3, .int t4, .int t5, encIs tv]))), (506, .box 47 (.t (.agg [.int 0, .int 0, .int 0, .nil])))]⟩) (fun k => k ≤ p) (fun k => p - k) 0 [(503, some 103), (504, some 104), (506, some 106)] (by omega) ?_ ?_
  · simp [go_sem, ↓iO, iO, tN]
  intro k hk
  by_cases hkp : k < p
  · obtain ⟨y, hy, hys⟩ := hlt k hkp
    have hkl : k < l.length := by omega
    repeat (first | (refine nf1_sound rfl ?_; simp [go_sem, ↓iO, iO, tN, hy]; (repeat (refine anI ?_)); try (refine ⟨dcK, ?_⟩)) | ((first | refine itePos (by omega) ?_ | refine iteNeg (by omega) ?_); try simp [go_sem, ↓iO, iO, tN, hy]) | (refine ⟨dcK, ?_⟩))
    rw [RoundQ_normal]; refine ⟨k + 1, [(503, some 503), (504, some 504), (506, some 506)], ?_, ?_, ?_⟩
    · omega
    · omega
    simp [go_sem, ↓iO, iO, tN]
  · obtain rfl : k = p := by omega
    by_cases hkl : k < l.length
    · obtain ⟨y, hy⟩ := has_get hkl
      have hy1 := hend y hy
      have hy2 := hx y hy
      have hy3 : ¬ y.sq = t3 := hy2
      repeat (first | (refine nf1_sound rfl ?_; simp [go_sem, ↓iO, iO, tN, hy, hy3, htk]; (repeat (refine anI ?_)); try (refine ⟨dcK, ?_⟩)) | ((first | refine itePos (by omega) ?_ | refine iteNeg (by omega) ?_); try simp [go_sem, ↓iO, iO, tN, hy, hy3, htk]) | (refine ⟨dcK, ?_⟩))
      refine CallK.fn (c) [(1000, 509)] [] [192] (by kernel_rfl) ?_ ?_ ?_ (Or.inl rfl) ?_ <;> simp [go_sem, ↓iO, iO, tN, htk]
      repeat (refine anI ?_)
      try (refine ⟨dcK, ?_⟩)
      repeat (first | (refine nf1_sound rfl ?_; simp [go_sem, ↓iO, iO, tN]; (repeat (refine anI ?_)); try (refine ⟨dcK, ?_⟩)) | ((first | refine itePos (by omega) ?_ | refine iteNeg (by omega) ?_); try simp [go_sem, ↓iO, iO, tN]) | (refine ⟨dcK, ?_⟩))
      refine CallK.fn (c2) [(1, 509), (1000, 510)] [] [] (by kernel_rfl) ?_ ?_ ?_ (Or.inl rfl) ?_ <;> simp [go_sem, ↓iO, iO, tN]
      repeat (refine anI ?_)
      try (refine ⟨dcK, ?_⟩)
      repeat (first | (refine nf1_sound rfl ?_; simp [go_sem, ↓iO, iO, tN]; (repeat (refine anI ?_)); try (refine ⟨dcK, ?_⟩)) | ((first | refine itePos (by omega) ?_ | refine iteNeg (by omega) ?_); try simp [go_sem, ↓iO, iO, tN]) | (refine ⟨dcK, ?_⟩))
      first | rw [RetQ_ret] | rw [RetQ_normal]
      refine ⟨[(1000, some 510)], ?_⟩
      simp [go_sem, ↓iO, iO, tN]
    · repeat (first | (refine nf1_sound rfl ?_; simp [go_sem, ↓iO, iO, tN, hkl, htk]; (repeat (refine anI ?_)); try (refine ⟨dcK, ?_⟩)) | ((first | refine itePos (by omega) ?_ | refine iteNeg (by omega) ?_); try simp [go_sem, ↓iO, iO, tN, hkl, htk]) | (refine ⟨dcK, ?_⟩))
      refine CallK.fn (c) [(1000, 509)] [] [192] (by kernel_rfl) ?_ ?_ ?_ (Or.inl rfl) ?_ <;> simp [go_sem, ↓iO, iO, tN, htk]
      repeat (refine anI ?_)
      try (refine ⟨dcK, ?_⟩)
      repeat (first | (refine nf1_sound rfl ?_; simp [go_sem, ↓iO, iO, tN]; (repeat (refine anI ?_)); try (refine ⟨dcK, ?_⟩)) | ((first | refine itePos (by omega) ?_ | refine iteNeg (by omega) ?_); try simp [go_sem, ↓iO, iO, tN]) | (refine ⟨dcK, ?_⟩))
      refine CallK.fn (c2) [(1, 509), (1000, 510)] [] [] (by kernel_rfl) ?_ ?_ ?_ (Or.inl rfl) ?_ <;> simp [go_sem, ↓iO, iO, tN]
      repeat (refine anI ?_)
      try (refine ⟨dcK, ?_⟩)
      repeat (first | (refine nf1_sound rfl ?_; simp [go_sem, ↓iO, iO, tN]; (repeat (refine anI ?_)); try (refine ⟨dcK, ?_⟩)) | ((first | refine itePos (by omega) ?_ | refine iteNeg (by omega) ?_); try simp [go_sem, ↓iO, iO, tN]) | (refine ⟨dcK, ?_⟩))
      first | rw [RetQ_ret] | rw [RetQ_normal]
      refine ⟨[(1000, some 510)], ?_⟩
      simp [go_sem, ↓iO, iO, tN]
/-- Take, whatever comes. -/
structure TkR (w : Wt) (t : Tg) (win : Int) : Prop where
  hl : w.held.length ≤ 1000
  wn : 0 ≤ win
  n0 : 0 ≤ w.nx
  n1 : w.nx ≤ 1000000000000
  ts : 0 ≤ t.sq ∧ t.sq ≤ 1000000000000
  hs : ∀ x ∈ w.held, 0 ≤ x.sq ∧ x.sq ≤ 1000000000000
theorem frzW (z : Wt) (l : List Tg) {f : FuncId} {ss : List S} (h : FnOk Try.prog f ss [] (.tup [.t (encWt z), .own 1000]) [(1000, blkTgs l)]) : FnOk Try.prog f ss [] (.tup [.t (encWt z), .t (encTgs l)]) [] := by
  refine fnOk_weak h [] rfl ?_ ?_
  · simp [go_sem, ↓iO, iO, tN, wkXs]
  · simp [go_sem, ↓iO, iO, tN]
theorem frzN (z : Wt) {f : FuncId} {ss : List S} (h : FnOk Try.prog f ss [] (.tup [.t (encWt z), .t .nil]) []) : FnOk Try.prog f ss [] (.tup [.t (encWt z), .t (encTgs [])]) [] := by
  refine fnOk_weak h [] rfl ?_ ?_
  · simp [go_sem, ↓iO, iO, tN, wkXs]
  · simp [go_sem, ↓iO, iO, tN]
theorem gvL_nil {w : Wt} (h : (gvW w).held.length = w.held.length) : gvL w = [] := by
  have := gvL_len w
  exact List.eq_nil_of_length_eq_zero (by omega)
theorem rtake_fn (w : Wt) (t : Tg) (win : Int) (h : TkR w t win) : FnOk Try.prog 42 [.t (encWt w), .t (encTg t), .t (.int win)] [] (.tup [.t (encWt (takeV w t win).1), .t (encTgs (takeV w t win).2)]) [] := by
  have hl := h.hl
  unfold takeV
  by_cases c1 : t.ep < w.ep ∨ t.ep = w.ep ∧ t.sq < w.nx
  · rw [if_pos c1]
    exact frzN w (rtake_old w t win c1)
  rw [if_neg c1]
  by_cases c2 : w.ep < t.ep
  · rw [if_pos c2]
    unfold putV
    rw [if_neg (by simp)]
    have e1 : (⟨w.st, t.ep, 0, ([] : List Tg).take (lb t.sq (keys [])) ++ [t] ++ ([] : List Tg).drop (lb t.sq (keys []))⟩ : Wt) = ⟨w.st, t.ep, 0, [t]⟩ := by simp
    dsimp only
    rw [e1]
    unfold endV
    cases hh : (gvW ⟨w.st, t.ep, 0, [t]⟩).held with
    | nil => exact frzW _ _ (rtakeN_few w t win (by omega) c2 _ rfl (by rw [hh]; have := h.wn; simp; omega))
    | cons x r =>
      dsimp only
      have hx : x = t ∧ r = [] := by
        have hm : ∀ y ∈ (gvW ⟨w.st, t.ep, 0, [t]⟩).held, y ∈ [t] := gvW_held ⟨w.st, t.ep, 0, [t]⟩
        have hl2 := gvL_len ⟨w.st, t.ep, 0, [t]⟩
        rw [hh] at hm hl2
        have h1 := hm x (by simp)
        simp at h1 hl2
        exact ⟨h1, List.eq_nil_of_length_eq_zero (by omega)⟩
      obtain ⟨rfl, rfl⟩ := hx
      by_cases hf : win < (([] : List Tg).length + 1 : Nat)
      · rw [if_pos hf]
        have ez : gvW ⟨w.st, x.ep, 0, [x]⟩ = ⟨w.st, x.ep, (gvW ⟨w.st, x.ep, 0, [x]⟩).nx, (gvW ⟨w.st, x.ep, 0, [x]⟩).held⟩ := rfl
        rw [hh] at ez
        refine frzW _ _ (rtakeN_many w x win (by omega) c2 w.st x.ep _ x [] ez hf (by simp) h.ts.1 h.ts.2 _ rfl ?_ _ rfl)
        · have := gvL_len ⟨w.st, x.ep, 0, [x]⟩
          rw [List.length_append]
          dsimp only at this
          simp only [List.length_cons, List.length_nil] at this
          omega
      · rw [if_neg hf]
        exact frzW _ _ (rtakeN_few w x win (by omega) c2 _ rfl (by rw [hh]; simpa using hf))
  · rw [if_neg c2]
    have c3 : t.ep = w.ep := by omega
    have hq : ¬ t.sq < w.nx := fun g => c1 (.inr ⟨c3, g⟩)
    have hn0 := h.n0
    have hn1 := h.n1
    unfold putV
    by_cases c4 : ∃ x, w.held[lb t.sq (keys w.held)]? = some x ∧ x.sq = t.sq
    · rw [if_pos c4]
      obtain ⟨x, hx, hxs⟩ := c4
      exact frzN w (rtakeB_dup w t x win (by omega) c3 hq _ rfl hx hxs)
    · rw [if_neg c4]
      have hx : ∀ x, w.held[lb t.sq (keys w.held)]? = some x → x.sq ≠ t.sq := fun x hx he => c4 ⟨x, hx, he⟩
      have hmem : ∀ x ∈ w.held.take (lb t.sq (keys w.held)) ++ [t] ++ w.held.drop (lb t.sq (keys w.held)), 0 ≤ x.sq ∧ x.sq ≤ 1000000000000 := fun x hx => by
        simp only [List.mem_append, List.mem_singleton] at hx
        rcases hx with (hx | hx) | hx
        · exact h.hs x (List.mem_of_mem_take hx)
        · subst hx; exact h.ts
        · exact h.hs x (List.mem_of_mem_drop hx)
      have hlen := ins_len (t := t) (lb_len t.sq w.held)
      unfold endV
      rw [List.nil_append]
      have hgl := gvL_len ⟨w.st, w.ep, w.nx, w.held.take (lb t.sq (keys w.held)) ++ [t] ++ w.held.drop (lb t.sq (keys w.held))⟩
      have hm2 := gvW_held ⟨w.st, w.ep, w.nx, w.held.take (lb t.sq (keys w.held)) ++ [t] ++ w.held.drop (lb t.sq (keys w.held))⟩
      dsimp only at hgl hm2
      rw [hlen] at hgl
      cases hh : (gvW ⟨w.st, w.ep, w.nx, w.held.take (lb t.sq (keys w.held)) ++ [t] ++ w.held.drop (lb t.sq (keys w.held))⟩).held with
      | nil => exact frzW _ _ (rtakeC_few w t win (by omega) c3 hq hn0 hn1 _ rfl hx _ rfl (by rw [hh]; have := h.wn; simp; omega))
      | cons x r =>
        dsimp only
        rw [hh] at hgl hm2
        simp only [List.length_cons] at hgl
        by_cases hf : win < (r.length + 1 : Nat)
        · rw [if_pos hf]
          have hxb := hmem x (hm2 x (by simp))
          have ez : gvW ⟨w.st, w.ep, w.nx, w.held.take (lb t.sq (keys w.held)) ++ [t] ++ w.held.drop (lb t.sq (keys w.held))⟩ = ⟨w.st, w.ep, (gvW ⟨w.st, w.ep, w.nx, w.held.take (lb t.sq (keys w.held)) ++ [t] ++ w.held.drop (lb t.sq (keys w.held))⟩).nx, (gvW ⟨w.st, w.ep, w.nx, w.held.take (lb t.sq (keys w.held)) ++ [t] ++ w.held.drop (lb t.sq (keys w.held))⟩).held⟩ := rfl
          rw [hh] at ez
          refine frzW _ _ (rtakeC_many w t win (by omega) c3 hq hn0 hn1 _ rfl hx w.st w.ep _ x r ez hf (by omega) hxb.1 hxb.2 _ rfl (by omega) _ rfl)
        · rw [if_neg hf]
          exact frzW _ _ (rtakeC_few w t win (by omega) c3 hq hn0 hn1 _ rfl hx _ rfl (by rw [hh]; simpa using hf))
theorem WtOk.tkR {w : Wt} {t : Tg} {win : Int} (hw : WtOk w win) (ht : TgOk t) (h0 : 0 ≤ win) (h16 : win ≤ 16) : TkR w t win := by
  obtain ⟨h1, h2, h3, h4, h5, h6, h7, h8⟩ := hw
  have hsq := ht.sq
  exact ⟨by omega, h0, by omega, by omega, by omega, fun x hx => by have := (held_mem h8 x hx).2.1.sq; omega⟩
end Go.Proofs.Ytopmmodcaoaaeaa
namespace Go.Proofs.Ytopmmodcaoaaeaa
open Go.RowKit Sy
open Go.IntWalk renaming iteOmega → iO, toNatUp → tN
set_option linter.unusedVariables false
set_option linter.unusedSimpArgs false
theorem lbW_lt (t : Int) : ∀ (l : List Wt) {k : Nat}, k < lb t (l.map (·.st)) → ∃ w, l[k]? = some w ∧ w.st < t
  | [], k, h => by simp [lb] at h
  | w :: r, k, h => by
    rw [List.map_cons] at h
    unfold lb at h
    split at h
    · rename_i hw
      cases k with
      | zero => exact ⟨w, rfl, hw⟩
      | succ k =>
        obtain ⟨v, h1, h2⟩ := lbW_lt t r (k := k) (by omega)
        exact ⟨v, by simpa using h1, h2⟩
    · omega
theorem lbW_end (t : Int) : ∀ (l : List Wt) {w : Wt}, l[lb t (l.map (·.st))]? = some w → ¬ w.st < t
  | [], w, h => by simp at h
  | v :: r, w, h => by
    rw [List.map_cons] at h
    unfold lb at h
    split at h
    · exact lbW_end t r (by simpa using h)
    · rename_i hv
      simp at h
      subst h
      exact hv
set_option maxRecDepth 100000 in
set_option maxHeartbeats 16000000 in
theorem raccept_fn (i : In) (t : Tg) (hi : Sized i) (ht : t.vs.length ≤ 1000000) (ho : InOk i) : FnOk Try.prog 25 [.t (encIn i), .t (encTg t)] [] (resA (accV i t)) [] := by
  have cv := rvalidIn_fn i hi.tl hi.sl hi.u8 hi.mod true ⟨fun _ => ho, fun _ => rfl⟩
  unfold accV
  by_cases hn : TgOk t
  · rw [if_pos hn]
    have cn := rvalid_fn t (by omega) true (decide_eq_true hn)
    have h64 := ho.sl
    have hwin0 : 0 ≤ i.win := by have := ho.wn; omega
    have hwin16 : i.win ≤ 16 := by have := ho.wx; omega
    have hlt := fun k => lbW_lt t.st i.sts (k := k)
    have hend := fun w => lbW_end t.st i.sts (w := w)
    have hpl : lb t.st (i.sts.map (·.st)) ≤ i.sts.length := by have := lb_le t.st (i.sts.map (·.st)); simpa using this
    have hk := fun w (hw : w ∈ i.sts) => rtake_fn w t i.win ((ho.each w hw).tkR hn hwin0 hwin16)
    have hk0 := rtake_fn ⟨t.st, t.ep, 0, []⟩ t i.win ((newW_ok hn hwin0).tkR hn hwin0 hwin16)
    obtain ⟨p, hp⟩ : ∃ p, lb t.st (i.sts.map (·.st)) = p := ⟨_, rfl⟩
    rw [hp] at hlt hend hpl ⊢
    clear hi ho hn hp hwin0 hwin16
    obtain ⟨win, tail, sts⟩ := i
    obtain ⟨t1, t2, t3, t4, t5, tv⟩ := t
    dsimp only at *
    have hta : (sts.map encWt).take sts.length = sts.map encWt := List.take_of_length_le (by simp)
    by_cases hw : ∃ w, sts[p]? = some w ∧ w.st = t1
    · obtain ⟨w, hw, hws⟩ := hw
      unfold accA
      dsimp only
      rw [hw]
      dsimp only
      rw [if_pos hws]
      have ct := hk w (mem_get hw)
      have hset : sts.set p (takeV w ⟨t1, t2, t3, t4, t5, tv⟩ win).1 = sts.take p ++ [(takeV w ⟨t1, t2, t3, t4, t5, tv⟩ win).1] ++ sts.drop (p + 1) := by
        rw [List.set_eq_take_append_cons_drop, if_pos (List.getElem?_eq_some_iff.1 hw).1]
        simp
      rw [hset]
      obtain ⟨o, hO⟩ : ∃ o, (takeV w ⟨t1, t2, t3, t4, t5, tv⟩ win).2 = o := ⟨_, rfl⟩
      obtain ⟨z, hZ⟩ : ∃ z, (takeV w ⟨t1, t2, t3, t4, t5, tv⟩ win).1 = z := ⟨_, rfl⟩
      rw [hO, hZ] at ct
      rw [hO, hZ]
      have hpl2 := (List.getElem?_eq_some_iff.1 hw).1
      clear hset hk hk0 hend hO hZ
      obtain ⟨w1, w2, w3, w4⟩ := w
      obtain ⟨z1, z2, z3, z4⟩ := z
      dsimp only at hws ct
      subst hws
      refine FnOk.intro fact_mixed Try.func25 rfl Try.ntmps25 (by rfl) (by simp) ?_
      repeat (first | (refine nf1_sound rfl ?_; simp [go_sem, ↓iO, iO, tN]; (repeat (refine anI ?_)); try (refine ⟨dcK, ?_⟩)) | ((first | refine itePos (by omega) ?_ | refine iteNeg (by omega) ?_); try simp [go_sem, ↓iO, iO, tN]) | (refine ⟨dcK, ?_⟩))
      refine CallK.fn (cv) [] [] [] (by kernel_rfl) ?_ ?_ ?_ (Or.inl rfl) ?_ <;> simp [go_sem, ↓iO, iO, tN]
      repeat (refine anI ?_)
      try (refine ⟨dcK, ?_⟩)
      repeat (first | (refine nf1_sound rfl ?_; simp [go_sem, ↓iO, iO, tN]; (repeat (refine anI ?_)); try (refine ⟨dcK, ?_⟩)) | ((first | refine itePos (by omega) ?_ | refine iteNeg (by omega) ?_); try simp [go_sem, ↓iO, iO, tN]) | (refine ⟨dcK, ?_⟩))
      refine CallK.fn (cn) [] [] [] (by kernel_rfl) ?_ ?_ ?_ (Or.inl rfl) ?_ <;> simp [go_sem, ↓iO, iO, tN]
      repeat (refine anI ?_)
      try (refine ⟨dcK, ?_⟩)
      repeat (first | (refine nf1_sound rfl ?_; simp [go_sem, ↓iO, iO, tN]; (repeat (refine anI ?_)); try (refine ⟨dcK, ?_⟩)) | ((first | refine itePos (by omega) ?_ | refine iteNeg (by omega) ?_); try simp [go_sem, ↓iO, iO, tN]) | (refine ⟨dcK, ?_⟩))
      refine nf1_sound' _ _ _ ?_; simp only [nf1]
      refine CW.loop (ι := Nat) (fun k => ⟨[(2, .pt 502 [] 0), (3, .pt 503 [] 0), (4, .pt 504 [] 0), (7, .t (.int k))], [(502, .box 29 (.t (.agg [.int win, encUs tail, encWts sts]))), (503, .box 38 (.t (.agg [.int w1, .int t2, .int t3, .int t4, .int t5, encIs tv]))), (504, .box 29 (.t (.agg [.int 0, .nil, .nil])))]⟩) (fun k => k ≤ p) (fun k => p - k) 0 [(502, some 102), (503, some 103), (504, some 104)] (Nat.zero_le _) ?_ ?_
      · simp [go_sem, ↓iO, iO, tN]
      intro k hkp
      by_cases hlt2 : k < p
      · obtain ⟨y, hy, hys⟩ := hlt k hlt2
        have hkl : k < sts.length := by omega
        repeat (first | (refine nf1_sound rfl ?_; simp [go_sem, ↓iO, iO, tN, hy]; (repeat (refine anI ?_)); try (refine ⟨dcK, ?_⟩)) | ((first | refine itePos (by omega) ?_ | refine iteNeg (by omega) ?_); try simp [go_sem, ↓iO, iO, tN, hy]) | (refine ⟨dcK, ?_⟩))
        rw [RoundQ_normal]; refine ⟨k + 1, [(502, some 502), (503, some 503), (504, some 504)], ?_, ?_, ?_⟩
        · omega
        · omega
        simp [go_sem, ↓iO, iO, tN]
      · obtain rfl : k = p := by omega
        repeat (first | (refine nf1_sound rfl ?_; simp [go_sem, ↓iO, iO, tN, hw]; (repeat (refine anI ?_)); try (refine ⟨dcK, ?_⟩)) | ((first | refine itePos (by omega) ?_ | refine iteNeg (by omega) ?_); try simp [go_sem, ↓iO, iO, tN, hw]) | (refine ⟨dcK, ?_⟩))
        refine CallK.fn (ct) [] [] [] (by kernel_rfl) ?_ ?_ ?_ (Or.inl rfl) ?_ <;> simp [go_sem, ↓iO, iO, tN]
        repeat (refine anI ?_)
        try (refine ⟨dcK, ?_⟩)
        repeat (first | (refine nf1_sound rfl ?_; simp [go_sem, ↓iO, iO, tN, hta]; (repeat (refine anI ?_)); try (refine ⟨dcK, ?_⟩)) | ((first | refine itePos (by omega) ?_ | refine iteNeg (by omega) ?_); try simp [go_sem, ↓iO, iO, tN, hta]) | (refine ⟨dcK, ?_⟩))
        first | rw [RetQ_ret] | rw [RetQ_normal]
        refine ⟨[], ?_⟩
        simp [go_sem, ↓iO, iO, tN, wkXs, hta, List.map_append, List.map_take, List.map_drop]
    · have hno : ∀ w, sts[p]? = some w → w.st ≠ t1 := fun w h1 h2 => hw ⟨w, h1, h2⟩
      have hacc : accA ⟨win, tail, sts⟩ ⟨t1, t2, t3, t4, t5, tv⟩ p = newA ⟨win, tail, sts⟩ ⟨t1, t2, t3, t4, t5, tv⟩ p := by
        unfold accA
        dsimp only
        cases h : sts[p]? with
        | none => rfl
        | some w => dsimp only; rw [if_neg (hno w h)]
      rw [hacc]
      unfold newA
      dsimp only
      obtain ⟨o, hO⟩ : ∃ o, (takeV ⟨t1, t2, 0, []⟩ ⟨t1, t2, t3, t4, t5, tv⟩ win).2 = o := ⟨_, rfl⟩
      obtain ⟨z, hZ⟩ : ∃ z, (takeV ⟨t1, t2, 0, []⟩ ⟨t1, t2, t3, t4, t5, tv⟩ win).1 = z := ⟨_, rfl⟩
      rw [hO, hZ] at hk0
      rw [hO, hZ]
      clear hk hacc hw hO hZ
      obtain ⟨z1, z2, z3, z4⟩ := z
      refine FnOk.intro fact_mixed Try.func25 rfl Try.ntmps25 (by rfl) (by simp) ?_
      repeat (first | (refine nf1_sound rfl ?_; simp [go_sem, ↓iO, iO, tN]; (repeat (refine anI ?_)); try (refine ⟨dcK, ?_⟩)) | ((first | refine itePos (by omega) ?_ | refine iteNeg (by omega) ?_); try simp [go_sem, ↓iO, iO, tN]) | (refine ⟨dcK, ?_⟩))
      refine CallK.fn (cv) [] [] [] (by kernel_rfl) ?_ ?_ ?_ (Or.inl rfl) ?_ <;> simp [go_sem, ↓iO, iO, tN]
      repeat (refine anI ?_)
      try (refine ⟨dcK, ?_⟩)
      repeat (first | (refine nf1_sound rfl ?_; simp [go_sem, ↓iO, iO, tN]; (repeat (refine anI ?_)); try (refine ⟨dcK, ?_⟩)) | ((first | refine itePos (by omega) ?_ | refine iteNeg (by omega) ?_); try simp [go_sem, ↓iO, iO, tN]) | (refine ⟨dcK, ?_⟩))
      refine CallK.fn (cn) [] [] [] (by kernel_rfl) ?_ ?_ ?_ (Or.inl rfl) ?_ <;> simp [go_sem, ↓iO, iO, tN]
      repeat (refine anI ?_)
      try (refine ⟨dcK, ?_⟩)
      repeat (first | (refine nf1_sound rfl ?_; simp [go_sem, ↓iO, iO, tN]; (repeat (refine anI ?_)); try (refine ⟨dcK, ?_⟩)) | ((first | refine itePos (by omega) ?_ | refine iteNeg (by omega) ?_); try simp [go_sem, ↓iO, iO, tN]) | (refine ⟨dcK, ?_⟩))
      refine nf1_sound' _ _ _ ?_; simp only [nf1]
      refine CW.loop (ι := Nat) (fun k => ⟨[(2, .pt 502 [] 0), (3, .pt 503 [] 0), (4, .pt 504 [] 0), (7, .t (.int k))], [(502, .box 29 (.t (.agg [.int win, encUs tail, encWts sts]))), (503, .box 38 (.t (.agg [.int t1, .int t2, .int t3, .int t4, .int t5, encIs tv]))), (504, .box 29 (.t (.agg [.int 0, .nil, .nil])))]⟩) (fun k => k ≤ p) (fun k => p - k) 0 [(502, some 102), (503, some 103), (504, some 104)] (Nat.zero_le _) ?_ ?_
      · simp [go_sem, ↓iO, iO, tN]
      intro k hkp
      by_cases hlt2 : k < p
      · obtain ⟨y, hy, hys⟩ := hlt k hlt2
        have hkl : k < sts.length := by omega
        repeat (first | (refine nf1_sound rfl ?_; simp [go_sem, ↓iO, iO, tN, hy]; (repeat (refine anI ?_)); try (refine ⟨dcK, ?_⟩)) | ((first | refine itePos (by omega) ?_ | refine iteNeg (by omega) ?_); try simp [go_sem, ↓iO, iO, tN, hy]) | (refine ⟨dcK, ?_⟩))
        rw [RoundQ_normal]; refine ⟨k + 1, [(502, some 502), (503, some 503), (504, some 504)], ?_, ?_, ?_⟩
        · omega
        · omega
        simp [go_sem, ↓iO, iO, tN]
      · obtain rfl : k = p := by omega
        by_cases h64e : sts.length = 64
        · rw [if_pos h64e]
          by_cases hkl : k < sts.length
          · obtain ⟨y, hy⟩ := has_get hkl
            have hy1 := hend y hy
            have hy2 := hno y hy
            repeat (first | (refine nf1_sound rfl ?_; simp [go_sem, ↓iO, iO, tN, hy, hy1, hy2, h64e]; (repeat (refine anI ?_)); try (refine ⟨dcK, ?_⟩)) | ((first | refine itePos (by omega) ?_ | refine iteNeg (by omega) ?_); try simp [go_sem, ↓iO, iO, tN, hy, hy1, hy2, h64e]) | (refine ⟨dcK, ?_⟩))
            first | rw [RetQ_ret] | rw [RetQ_normal]
            refine ⟨[], ?_⟩
            simp [go_sem, ↓iO, iO, tN, wkXs]
          · repeat (first | (refine nf1_sound rfl ?_; simp [go_sem, ↓iO, iO, tN, hkl, h64e]; (repeat (refine anI ?_)); try (refine ⟨dcK, ?_⟩)) | ((first | refine itePos (by omega) ?_ | refine iteNeg (by omega) ?_); try simp [go_sem, ↓iO, iO, tN, hkl, h64e]) | (refine ⟨dcK, ?_⟩))
            first | rw [RetQ_ret] | rw [RetQ_normal]
            refine ⟨[], ?_⟩
            simp [go_sem, ↓iO, iO, tN, wkXs]
        · rw [if_neg h64e]
          have h64' : ¬ (sts.length : Int) = 64 := by omega
          have hsm : sts.take k ++ ⟨z1, z2, z3, z4⟩ :: sts.drop k = sts.take k ++ [⟨z1, z2, z3, z4⟩] ++ sts.drop k := by simp
          rw [hsm]
          by_cases hkl : k < sts.length
          · obtain ⟨y, hy⟩ := has_get hkl
            have hy1 := hend y hy
            have hy2 := hno y hy
            repeat (first | (refine nf1_sound rfl ?_; simp [go_sem, ↓iO, iO, tN, hy, hy1, hy2, h64e, h64']; (repeat (refine anI ?_)); try (refine ⟨dcK, ?_⟩)) | ((first | refine itePos (by omega) ?_ | refine iteNeg (by omega) ?_); try simp [go_sem, ↓iO, iO, tN, hy, hy1, hy2, h64e, h64']) | (refine ⟨dcK, ?_⟩))
            refine CallK.fn (hk0) [] [] [] (by kernel_rfl) ?_ ?_ ?_ (Or.inl rfl) ?_ <;> simp [go_sem, ↓iO, iO, tN]
            repeat (refine anI ?_)
            try (refine ⟨dcK, ?_⟩)
            repeat (first | (refine nf1_sound rfl ?_; simp [go_sem, ↓iO, iO, tN, hta]; (repeat (refine anI ?_)); try (refine ⟨dcK, ?_⟩)) | ((first | refine itePos (by omega) ?_ | refine iteNeg (by omega) ?_); try simp [go_sem, ↓iO, iO, tN, hta]) | (refine ⟨dcK, ?_⟩))
            first | rw [RetQ_ret] | rw [RetQ_normal]
            refine ⟨[], ?_⟩
            simp [go_sem, ↓iO, iO, tN, wkXs, hta, List.map_append, List.map_take, List.map_drop]
          · repeat (first | (refine nf1_sound rfl ?_; simp [go_sem, ↓iO, iO, tN, hkl, h64e, h64']; (repeat (refine anI ?_)); try (refine ⟨dcK, ?_⟩)) | ((first | refine itePos (by omega) ?_ | refine iteNeg (by omega) ?_); try simp [go_sem, ↓iO, iO, tN, hkl, h64e, h64']) | (refine ⟨dcK, ?_⟩))
            refine CallK.fn (hk0) [] [] [] (by kernel_rfl) ?_ ?_ ?_ (Or.inl rfl) ?_ <;> simp [go_sem, ↓iO, iO, tN]
            repeat (refine anI ?_)
            try (refine ⟨dcK, ?_⟩)
            repeat (first | (refine nf1_sound rfl ?_; simp [go_sem, ↓iO, iO, tN, hta]; (repeat (refine anI ?_)); try (refine ⟨dcK, ?_⟩)) | ((first | refine itePos (by omega) ?_ | refine iteNeg (by omega) ?_); try simp [go_sem, ↓iO, iO, tN, hta]) | (refine ⟨dcK, ?_⟩))
            first | rw [RetQ_ret] | rw [RetQ_normal]
            refine ⟨[], ?_⟩
            simp [go_sem, ↓iO, iO, tN, wkXs, hta, List.map_append, List.map_take, List.map_drop]
  · rw [if_neg hn]
    have cn := rvalid_fn t (by omega) false (decide_eq_false hn)
    obtain ⟨win, tail, sts⟩ := i
    refine FnOk.intro fact_mixed Try.func25 rfl Try.ntmps25 (by rfl) (by simp) ?_
    repeat (first | (refine nf1_sound rfl ?_; simp [go_sem, ↓iO, iO, tN]; (repeat (refine anI ?_)); try (refine ⟨dcK, ?_⟩)) | ((first | refine itePos (by omega) ?_ | refine iteNeg (by omega) ?_); try simp [go_sem, ↓iO, iO, tN]) | (refine ⟨dcK, ?_⟩))
    refine CallK.fn (cv) [] [] [] (by kernel_rfl) ?_ ?_ ?_ (Or.inl rfl) ?_ <;> simp [go_sem, ↓iO, iO, tN]
    repeat (refine anI ?_)
    try (refine ⟨dcK, ?_⟩)
    repeat (first | (refine nf1_sound rfl ?_; simp [go_sem, ↓iO, iO, tN]; (repeat (refine anI ?_)); try (refine ⟨dcK, ?_⟩)) | ((first | refine itePos (by omega) ?_ | refine iteNeg (by omega) ?_); try simp [go_sem, ↓iO, iO, tN]) | (refine ⟨dcK, ?_⟩))
    refine CallK.fn (cn) [] [] [] (by kernel_rfl) ?_ ?_ ?_ (Or.inl rfl) ?_ <;> simp [go_sem, ↓iO, iO, tN]
    repeat (refine anI ?_)
    try (refine ⟨dcK, ?_⟩)
    repeat (first | (refine nf1_sound rfl ?_; simp [go_sem, ↓iO, iO, tN]; (repeat (refine anI ?_)); try (refine ⟨dcK, ?_⟩)) | ((first | refine itePos (by omega) ?_ | refine iteNeg (by omega) ?_); try simp [go_sem, ↓iO, iO, tN]) | (refine ⟨dcK, ?_⟩))
    first | rw [RetQ_ret] | rw [RetQ_normal]
    refine ⟨[], ?_⟩
    simp [go_sem, ↓iO, iO, tN]
theorem racceptNo_fn (i : In) (t : Tg) (hi : Sized i) (ho : ¬ InOk i) : FnOk Try.prog 25 [.t (encIn i), .t (encTg t)] [] (resA (i, [], 9)) [] := by
  have cv := rvalidIn_fn i hi.tl hi.sl hi.u8 hi.mod false ⟨(fun h => by cases h), (fun h => (ho h).elim)⟩
  obtain ⟨win, tail, sts⟩ := i
  refine FnOk.intro fact_mixed Try.func25 rfl Try.ntmps25 (by rfl) (by simp) ?_
  repeat (first | (refine nf1_sound rfl ?_; simp [go_sem, ↓iO, iO, tN]; (repeat (refine anI ?_)); try (refine ⟨dcK, ?_⟩)) | ((first | refine itePos (by omega) ?_ | refine iteNeg (by omega) ?_); try simp [go_sem, ↓iO, iO, tN]) | (refine ⟨dcK, ?_⟩))
  refine CallK.fn (cv) [] [] [] (by kernel_rfl) ?_ ?_ ?_ (Or.inl rfl) ?_ <;> simp [go_sem, ↓iO, iO, tN]
  repeat (refine anI ?_)
  try (refine ⟨dcK, ?_⟩)
  repeat (first | (refine nf1_sound rfl ?_; simp [go_sem, ↓iO, iO, tN]; (repeat (refine anI ?_)); try (refine ⟨dcK, ?_⟩)) | ((first | refine itePos (by omega) ?_ | refine iteNeg (by omega) ?_); try simp [go_sem, ↓iO, iO, tN]) | (refine ⟨dcK, ?_⟩))
  first | rw [RetQ_ret] | rw [RetQ_normal]
  refine ⟨[], ?_⟩
  simp [go_sem, ↓iO, iO, tN, wkXs]
def stI : Option Nat → Int
  | some q => (q : Int)
  | none => -1
def inV (es : List Ev) : Int := (es.map fun e => (e.2.1 : Int) - e.1).sum
theorem inV_snoc (es : List Ev) (e : Ev) : inV (es ++ [e]) = inV es + ((e.2.1 : Int) - e.1) := by simp [inV]
theorem frsE_snoc (bs : List Nat) (es : List Ev) (a b : Nat) : frsE bs (es ++ [(a, b, true)]) = frsE bs es ++ [(bs.take b).drop a] := by simp [frsE]
theorem frsE_last (bs : List Nat) (es : List Ev) (a b : Nat) : frsE bs (es ++ [(a, b, false)]) = frsE bs es := by simp [frsE]
theorem tlE_whole (bs : List Nat) : ∀ (es : List Ev) (t : List Nat), (∀ e ∈ es, e.2.2 = true) → es.foldl (fun t e => if e.2.2 then t else (bs.take e.2.1).drop e.1) t = t
  | [], t, _ => rfl
  | e :: r, t, h => by
    rw [List.foldl_cons, if_pos (h e (List.mem_cons_self ..))]
    exact tlE_whole bs r t (fun x hx => h x (List.mem_cons_of_mem _ hx))
theorem tlE_last (bs : List Nat) (es : List Ev) (a b : Nat) (h : ∀ e ∈ es, e.2.2 = true) : tlE bs (es ++ [(a, b, false)]) = (bs.take b).drop a := by
  unfold tlE
  rw [List.foldl_append, tlE_whole bs es _ h]
  rfl
structure RfI (bs : List Nat) (E : List Ev) (k : Nat) (st : Option Nat) (pre : List Ev) : Prop where
  hk : k ≤ bs.length
  hs : ∀ q, st = some q → q < k
  he : pre ++ evs k st (bs.drop k) = E
  hw : ∀ e ∈ pre, e.2.2 = true
  h0 : 0 ≤ inV pre
  h1 : inV pre ≤ 1000001 * k
  hl : (frsE bs pre).length ≤ k
set_option maxRecDepth 100000 in
set_option maxHeartbeats 16000000 in
theorem rframes_fn (bs : List Nat) (hlen : bs.length ≤ 1000000) (h8 : ∀ c ∈ bs, c < 256) : FnOk Try.prog 21 [.t (encUs bs)] [] (.tup [.t (.sl 1 ((frV bs).map encUs)), .t (encUs (tlV bs)), .t (.int (dmV bs))]) [] := by
  unfold frV tlV dmV
  obtain ⟨E, hE⟩ : ∃ E, evs 0 none bs = E := ⟨_, rfl⟩
  rw [hE]
  have hta : (bs.map encU).take bs.length = bs.map encU := List.take_of_length_le (by simp)
  refine FnOk.intro fact_mixed Try.func21 rfl Try.ntmps21 (by rfl) (by simp) ?_
  repeat (first | (refine nf1_sound rfl ?_; simp [go_sem, ↓iO, iO, tN]; (repeat (refine anI ?_)); try (refine ⟨dcK, ?_⟩)) | ((first | refine itePos (by omega) ?_ | refine iteNeg (by omega) ?_); try simp [go_sem, ↓iO, iO, tN]) | (refine ⟨dcK, ?_⟩))
  refine nf1_sound' _ _ _ ?_; simp only [nf1]
  refine CW.loop (ι := Nat × Option Nat × List Ev) (fun j => ⟨[(0, .t (encUs bs)), (5, .own 505), (6, .t (.int (stI j.2.1))), (7, .t (.int (inV j.2.2))), (10, .t (.int bs.length)), (11, .t (.int j.1))], [(505, .list 26 1 ((frsE bs j.2.2).map encUs))]⟩) (fun j => RfI bs E j.1 j.2.1 j.2.2) (fun j => bs.length - j.1) (0, none, []) [(505, none)] ⟨Nat.zero_le _, by simp, by simpa using hE, by simp, by simp [inV], by simp [inV], by simp [frsE]⟩ ?_ ?_
  · simp [go_sem, ↓iO, iO, tN, stI, inV, frsE]
  rintro ⟨k, st, pre⟩ ⟨hk, hs, he, hw, h0, h1, hl⟩
  dsimp only at hk hs he hw h0 h1 hl ⊢
  obtain ⟨F, hF⟩ : ∃ F, frsE bs pre = F := ⟨_, rfl⟩
  obtain ⟨I, hI⟩ : ∃ I, inV pre = I := ⟨_, rfl⟩
  rw [hF] at hl ⊢
  rw [hI] at h0 h1 ⊢
  by_cases hlt : k < bs.length
  · obtain ⟨c, hc⟩ := has_get hlt
    have hc8 := h8 c (mem_get hc)
    have hwc : IntKind.i64.wrap (c : Int) = (c : Int) := by rw [IntKind.wrap_i64]; omega
    rw [drop_cons hc] at he
    by_cases g1 : c = 126
    · subst g1
      rw [evs_start] at he
      repeat (first | (refine nf1_sound rfl ?_; simp [go_sem, ↓iO, iO, tN, hc]; (repeat (refine anI ?_)); try (refine ⟨dcK, ?_⟩)) | ((first | refine itePos (by omega) ?_ | refine iteNeg (by omega) ?_); try simp [go_sem, ↓iO, iO, tN, hc]) | (refine ⟨dcK, ?_⟩))
      rw [RoundQ_normal]; refine ⟨(k + 1, some k, pre), [(505, some 505)], ?_, ?_, ?_⟩
      · exact ⟨by omega, fun q e => by cases e; omega, he, hw, by rw [hI]; exact h0, by rw [hI]; omega, by rw [hF]; omega⟩
      · dsimp only; omega
      simp [go_sem, ↓iO, iO, tN, hF, hI, stI]
    · have g1' : ¬ (c : Int) = 126 := by omega
      by_cases g2 : c = 124
      · subst g2
        cases st with
        | none =>
          rw [evs_none] at he
          unfold stI
          repeat (first | (refine nf1_sound rfl ?_; simp [go_sem, ↓iO, iO, tN, hc]; (repeat (refine anI ?_)); try (refine ⟨dcK, ?_⟩)) | ((first | refine itePos (by omega) ?_ | refine iteNeg (by omega) ?_); try simp [go_sem, ↓iO, iO, tN, hc]) | (refine ⟨dcK, ?_⟩))
          rw [RoundQ_normal]; refine ⟨(k + 1, none, pre), [(505, some 505)], ?_, ?_, ?_⟩
          · exact ⟨by omega, fun q e => (by cases e), he, hw, by rw [hI]; exact h0, by rw [hI]; omega, by rw [hF]; omega⟩
          · dsimp only; omega
          simp [go_sem, ↓iO, iO, tN, hF, hI, stI]
        | some q =>
          have hq := hs q rfl
          rw [evs_some] at he
          have hin := inV_snoc pre (q, k + 1, true)
          have hfs := frsE_snoc bs pre q (k + 1)
          rw [hI] at hin
          rw [hF] at hfs
          dsimp only at hin
          have hev : ((bs.map encU).take (k + 1)).drop q = ((bs.take (k + 1)).drop q).map encU := by rw [List.map_drop, List.map_take]
          have hevl : ((bs.take (k + 1)).drop q).length ≤ 1000000 := by simp; omega
          obtain ⟨X, hX⟩ : ∃ X, (bs.take (k + 1)).drop q = X := ⟨_, rfl⟩
          rw [hX] at hev hevl hfs
          unfold stI
          repeat (first | (refine nf1_sound rfl ?_; simp [go_sem, ↓iO, iO, tN, hc, hev]; (repeat (refine anI ?_)); try (refine ⟨dcK, ?_⟩)) | ((first | refine itePos (by omega) ?_ | refine iteNeg (by omega) ?_); try simp [go_sem, ↓iO, iO, tN, hc, hev]) | (refine ⟨dcK, ?_⟩))
          rw [RoundQ_normal]; refine ⟨(k + 1, none, pre ++ [(q, k + 1, true)]), [(505, some 135)], ?_, ?_, ?_⟩
          · exact ⟨by omega, fun q e => (by cases e), by simpa using he, fun e h => by rcases List.mem_append.1 h with h | h; exact hw e h; simp at h; rw [h], by rw [hin]; omega, by rw [hin]; omega, by rw [hfs]; simp; omega⟩
          · dsimp only; omega
          simp [go_sem, ↓iO, iO, tN, hfs, hin, stI]
      · have g2' : ¬ (c : Int) = 124 := by omega
        rw [evs_other _ _ _ _ g1 g2] at he
        repeat (first | (refine nf1_sound rfl ?_; simp [go_sem, ↓iO, iO, tN, hc, hwc, g1, g1', g2, g2']; (repeat (refine anI ?_)); try (refine ⟨dcK, ?_⟩)) | ((first | refine itePos (by omega) ?_ | refine iteNeg (by omega) ?_); try simp [go_sem, ↓iO, iO, tN, hc, hwc, g1, g1', g2, g2']) | (refine ⟨dcK, ?_⟩))
        rw [RoundQ_normal]; refine ⟨(k + 1, st, pre), [(505, some 505)], ?_, ?_, ?_⟩
        · exact ⟨by omega, fun q e => by have := hs q e; omega, he, hw, by rw [hI]; exact h0, by rw [hI]; omega, by rw [hF]; omega⟩
        · dsimp only; omega
        simp [go_sem, ↓iO, iO, tN, hF, hI]
  · obtain rfl : k = bs.length := by omega
    rw [List.drop_length] at he
    cases st with
    | none =>
      rw [evs_nil_none, List.append_nil] at he
      subst he
      have ht : tlE bs pre = [] := tlE_whole bs pre [] hw
      have hd : dmE bs.length pre = (bs.length : Int) - I := by rw [← hI]; rfl
      rw [hF, ht, hd]
      unfold stI
      repeat (first | (refine nf1_sound rfl ?_; simp [go_sem, ↓iO, iO, tN]; (repeat (refine anI ?_)); try (refine ⟨dcK, ?_⟩)) | ((first | refine itePos (by omega) ?_ | refine iteNeg (by omega) ?_); try simp [go_sem, ↓iO, iO, tN]) | (refine ⟨dcK, ?_⟩))
      first | rw [RetQ_ret] | rw [RetQ_normal]
      refine ⟨[], ?_⟩
      simp [go_sem, ↓iO, iO, tN, wkXs]
    | some q =>
      have hq := hs q rfl
      rw [evs_nil_some] at he
      have ht : tlE bs E = (bs.take bs.length).drop q := by rw [← he]; exact tlE_last bs pre q _ hw
      have hd : dmE bs.length E = (q : Int) - I := by
        rw [← hI, ← he]
        show (bs.length : Int) - inV (pre ++ [(q, bs.length, false)]) = _
        rw [inV_snoc]
        dsimp only
        omega
      have hf : frsE bs E = F := by rw [← he, frsE_last, hF]
      rw [hf, ht, hd, List.take_length]
      have hev : (bs.map encU).drop q = (bs.drop q).map encU := by rw [List.map_drop]
      have hevl : (bs.drop q).length ≤ 1000000 := by simp; omega
      obtain ⟨X, hX⟩ : ∃ X, bs.drop q = X := ⟨_, rfl⟩
      rw [hX] at hev hevl ⊢
      unfold stI
      repeat (first | (refine nf1_sound rfl ?_; simp [go_sem, ↓iO, iO, tN, hta, hev]; (repeat (refine anI ?_)); try (refine ⟨dcK, ?_⟩)) | ((first | refine itePos (by omega) ?_ | refine iteNeg (by omega) ?_); try simp [go_sem, ↓iO, iO, tN, hta, hev]) | (refine ⟨dcK, ?_⟩))
      first | rw [RetQ_ret] | rw [RetQ_normal]
      refine ⟨[], ?_⟩
      simp [go_sem, ↓iO, iO, tN, wkXs]
end Go.Proofs.Ytopmmodcaoaaeaa
namespace Go.Proofs.Ytopmmodcaoaaeaa
open Go.RowKit Sy
open Go.IntWalk renaming iteOmega → iO, toNatUp → tN
set_option linter.unusedVariables false
set_option linter.unusedSimpArgs false
theorem accV_err (i : In) {t : Tg} (ht : TgOk t) : (accV i t).2.2 = 0 ∨ accV i t = (i, [], 4) := by
  have new : ∀ p, (newA i t p).2.2 = 0 ∨ newA i t p = (i, [], 4) := fun p => by
    unfold newA
    split
    · exact .inr rfl
    · exact .inl rfl
  unfold accV
  rw [if_pos ht]
  unfold accA
  split
  · split
    · exact .inl rfl
    · exact new _
  · exact new _
set_option maxRecDepth 100000 in
set_option maxHeartbeats 16000000 in
theorem rfeed_fn (i : In) (b : List Nat) (hi : Sized i) (hb : b.length ≤ 100000) (h8 : ∀ c ∈ b, c < 256) (ho : InOk i) : FnOk Try.prog 27 [.t (encIn i), .t (encUs b)] [] (resA ((feedV i b).1, (feedV i b).2, 0)) [] := by
  have cv := rvalidIn_fn i hi.tl hi.sl hi.u8 hi.mod true ⟨fun _ => ho, fun _ => rfl⟩
  have htl := ho.tl
  have hu8 := hi.u8
  have hcut := cut_ok (i.tail ++ b)
  rw [← (frV_scan (i.tail ++ b)).2] at hcut
  unfold feedV
  obtain ⟨win, tail, sts⟩ := i
  dsimp only at htl hu8 hcut ⊢
  obtain ⟨L, g, l0, g0, hstep, hL, hg, hok⟩ := feed_ex _ ho (frV (tail ++ b))
  rw [hL, hg]
  dsimp only at l0 hok hstep ⊢
  clear hL hg
  have hcl : (tail ++ b).length ≤ 200000 := by simp; omega
  have hc8 : ∀ c ∈ tail ++ b, c < 256 := fun c hc => by
    rcases List.mem_append.1 hc with h | h
    · exact hu8 c h
    · exact h8 c h
  have cf := rframes_fn (tail ++ b) (by omega) hc8
  have hfl := frV_len (tail ++ b)
  have hfm : ∀ f ∈ frV (tail ++ b), f.length ≤ 200000 ∧ ∀ c ∈ f, c < 256 := fun f hf => ⟨by have := (frV_mem hf).1; omega, fun c hc => hc8 c ((frV_mem hf).2 c hc)⟩
  have htm := (tlV_mem (tail ++ b)).1
  have htm8 : ∀ c ∈ cutT (tlV (tail ++ b)), c < 256 := fun c hc => by
    unfold cutT at hc
    split at hc
    · simp at hc
    · exact hc8 c ((tlV_mem _).2 c hc)
  obtain ⟨fs, hfs⟩ : ∃ fs, frV (tail ++ b) = fs := ⟨_, rfl⟩
  obtain ⟨tl, htl2⟩ : ∃ tl, tlV (tail ++ b) = tl := ⟨_, rfl⟩
  obtain ⟨dm, hdm⟩ : ∃ dm, dmV (tail ++ b) = dm := ⟨_, rfl⟩
  have happ : tail.map encU ++ b.map encU = (tail ++ b).map encU := by rw [List.map_append]
  obtain ⟨cat, hcat⟩ : ∃ cat, tail ++ b = cat := ⟨_, rfl⟩
  rw [hfs] at hstep cf hfl hfm
  rw [htl2] at cf htm htm8 hcut
  rw [hdm] at cf
  rw [hfs, htl2]
  rw [hcat] at cf hfl htm hcl happ
  clear hfs htl2 hdm hcat hc8
  by_cases h400 : 400 < tl.length
  · have hcu : cutT tl = [] := by unfold cutT; rw [if_pos h400]
    rw [hcu] at hcut htm8 ⊢
    refine FnOk.intro fact_mixed Try.func27 rfl Try.ntmps27 (by rfl) (by simp) ?_
    repeat (first | (refine nf1_sound rfl ?_; simp [go_sem, ↓iO, iO, tN]; (repeat (refine anI ?_)); try (refine ⟨dcK, ?_⟩)) | ((first | refine itePos (by omega) ?_ | refine iteNeg (by omega) ?_); try simp [go_sem, ↓iO, iO, tN]) | (refine ⟨dcK, ?_⟩))
    refine CallK.fn (cv) [] [] [] (by kernel_rfl) ?_ ?_ ?_ (Or.inl rfl) ?_ <;> simp [go_sem, ↓iO, iO, tN]
    repeat (refine anI ?_)
    try (refine ⟨dcK, ?_⟩)
    repeat (first | (refine nf1_sound rfl ?_; simp [go_sem, ↓iO, iO, tN, happ]; (repeat (refine anI ?_)); try (refine ⟨dcK, ?_⟩)) | ((first | refine itePos (by omega) ?_ | refine iteNeg (by omega) ?_); try simp [go_sem, ↓iO, iO, tN, happ]) | (refine ⟨dcK, ?_⟩))
    refine CallK.fn (cf) [] [] [126] (by kernel_rfl) ?_ ?_ ?_ (Or.inl rfl) ?_ <;> simp [go_sem, ↓iO, iO, tN]
    repeat (refine anI ?_)
    try (refine ⟨dcK, ?_⟩)
    repeat (first | (refine nf1_sound rfl ?_; simp [go_sem, ↓iO, iO, tN]; (repeat (refine anI ?_)); try (refine ⟨dcK, ?_⟩)) | ((first | refine itePos (by omega) ?_ | refine iteNeg (by omega) ?_); try simp [go_sem, ↓iO, iO, tN]) | (refine ⟨dcK, ?_⟩))
    refine nf1_sound' _ _ _ ?_; simp only [nf1]
    refine CW.loop (ι := Nat) (fun k => ⟨[(2, .pt 502 [] 0), (4, .pt 504 [] 0), (7, .t (.sl 1 (fs.map encUs))), (10, .own 510), (41, .t (.int fs.length)), (42, .t (.int k))], [(502, .box 29 (.t (.agg [.int win, encUs [], encWts (L k)]))), (504, .box 29 (.t (.agg [.int 0, .nil, .nil]))), (510, blkTgs (g k))]⟩) (fun k => k ≤ fs.length) (fun k => fs.length - k) 0 [(502, some 102), (504, some 104), (510, none)] (Nat.zero_le _) ?_ ?_
    · simp [go_sem, ↓iO, iO, tN, l0, g0]
    intro k hk
    by_cases hlt : k < fs.length
    · obtain ⟨f, hf⟩ := has_get hlt
      obtain ⟨hf1, hf2⟩ := hfm f (mem_get hf)
      have hst := hstep k f hf
      obtain ⟨hk1, hk2⟩ := hok k
      have hk3 := (hok (k + 1)).2
      obtain ⟨A, hA⟩ : ∃ A, L k = A := ⟨_, rfl⟩
      obtain ⟨V, hV⟩ : ∃ V, g k = V := ⟨_, rfl⟩
      obtain ⟨A2, hA2⟩ : ∃ A, L (k + 1) = A := ⟨_, rfl⟩
      obtain ⟨V2, hV2⟩ : ∃ V, g (k + 1) = V := ⟨_, rfl⟩
      rw [hA, hV, hA2, hV2] at hst
      rw [hA] at hk1
      rw [hV] at hk2
      rw [hV2] at hk3
      rw [hA, hV]
      obtain ⟨t, e, hte⟩ : ∃ t e, decV f = (t, e) := ⟨_, _, rfl⟩
      have cd := rdecode_fn f (by omega) hf2 t e hte
      unfold stepF at hst
      rw [hte] at hst
      dsimp only at hst
      by_cases he : e = 0
      · subst he
        rw [if_pos rfl] at hst
        obtain ⟨htok, _⟩ := dec_back hf2 hte
        have htv : t.vs.length ≤ 1000000 := by have := htok.ln; omega
        have hok2 : InOk ⟨win, [], A⟩ := hk1.wt (t := []) hcut.1 hcut.2
        have ca := raccept_fn ⟨win, [], A⟩ t (hok2.sized htm8) htv hok2
        have hat := accV_tail ⟨win, tail, A⟩ [] t
        rw [show wt ⟨win, tail, A⟩ [] = (⟨win, [], A⟩ : In) from rfl] at hat
        rw [hat] at ca
        have her := accV_err ⟨win, tail, A⟩ htok
        have hlen := accV_len hk1 t
        obtain ⟨s', o, e2, hacc⟩ : ∃ s' o e2, accV ⟨win, tail, A⟩ t = (s', o, e2) := ⟨_, _, _, rfl⟩
        rw [hacc] at hst ca her hlen
        dsimp only at hst her hlen
        obtain ⟨h1, h2⟩ := Prod.mk.inj hst
        subst h1
        subst h2
        clear hst hat hacc hok2 hok hstep hte hk1
        rcases her with rfl | her
        · repeat (first | (refine nf1_sound rfl ?_; simp [go_sem, ↓iO, iO, tN, hf]; (repeat (refine anI ?_)); try (refine ⟨dcK, ?_⟩)) | ((first | refine itePos (by omega) ?_ | refine iteNeg (by omega) ?_); try simp [go_sem, ↓iO, iO, tN, hf]) | (refine ⟨dcK, ?_⟩))
          refine CallK.fn (cd) [] [] [] (by kernel_rfl) ?_ ?_ ?_ (Or.inl rfl) ?_ <;> simp [go_sem, ↓iO, iO, tN]
          repeat (refine anI ?_)
          try (refine ⟨dcK, ?_⟩)
          repeat (first | (refine nf1_sound rfl ?_; simp [go_sem, ↓iO, iO, tN]; (repeat (refine anI ?_)); try (refine ⟨dcK, ?_⟩)) | ((first | refine itePos (by omega) ?_ | refine iteNeg (by omega) ?_); try simp [go_sem, ↓iO, iO, tN]) | (refine ⟨dcK, ?_⟩))
          refine CallK.fn (ca) [] [] [] (by kernel_rfl) ?_ ?_ ?_ (Or.inl rfl) ?_ <;> simp [go_sem, ↓iO, iO, tN]
          repeat (refine anI ?_)
          try (refine ⟨dcK, ?_⟩)
          repeat (first | (refine nf1_sound rfl ?_; simp [go_sem, ↓iO, iO, tN, wt]; (repeat (refine anI ?_)); try (refine ⟨dcK, ?_⟩)) | ((first | refine itePos (by omega) ?_ | refine iteNeg (by omega) ?_); try simp [go_sem, ↓iO, iO, tN, wt]) | (refine ⟨dcK, ?_⟩))
          rw [RoundQ_normal]; refine ⟨k + 1, [(502, some 502), (504, some 504), (510, some 167)], ?_, ?_, ?_⟩
          · omega
          · omega
          simp [go_sem, ↓iO, iO, tN, hA2, hV2]
        · obtain ⟨e1, e2', e3⟩ : A2 = A ∧ o = [] ∧ e2 = 4 := by
            have := Prod.mk.inj her
            have h3 := Prod.mk.inj this.2
            exact ⟨(In.mk.inj this.1).2.2, h3.1, h3.2⟩
          subst e1
          subst e2'
          subst e3
          rw [List.append_nil] at hV2
          repeat (first | (refine nf1_sound rfl ?_; simp [go_sem, ↓iO, iO, tN, hf]; (repeat (refine anI ?_)); try (refine ⟨dcK, ?_⟩)) | ((first | refine itePos (by omega) ?_ | refine iteNeg (by omega) ?_); try simp [go_sem, ↓iO, iO, tN, hf]) | (refine ⟨dcK, ?_⟩))
          refine CallK.fn (cd) [] [] [] (by kernel_rfl) ?_ ?_ ?_ (Or.inl rfl) ?_ <;> simp [go_sem, ↓iO, iO, tN]
          repeat (refine anI ?_)
          try (refine ⟨dcK, ?_⟩)
          repeat (first | (refine nf1_sound rfl ?_; simp [go_sem, ↓iO, iO, tN]; (repeat (refine anI ?_)); try (refine ⟨dcK, ?_⟩)) | ((first | refine itePos (by omega) ?_ | refine iteNeg (by omega) ?_); try simp [go_sem, ↓iO, iO, tN]) | (refine ⟨dcK, ?_⟩))
          refine CallK.fn (ca) [] [] [] (by kernel_rfl) ?_ ?_ ?_ (Or.inl rfl) ?_ <;> simp [go_sem, ↓iO, iO, tN]
          repeat (refine anI ?_)
          try (refine ⟨dcK, ?_⟩)
          repeat (first | (refine nf1_sound rfl ?_; simp [go_sem, ↓iO, iO, tN, wt]; (repeat (refine anI ?_)); try (refine ⟨dcK, ?_⟩)) | ((first | refine itePos (by omega) ?_ | refine iteNeg (by omega) ?_); try simp [go_sem, ↓iO, iO, tN, wt]) | (refine ⟨dcK, ?_⟩))
          rw [RoundQ_normal]; refine ⟨k + 1, [(502, some 502), (504, some 504), (510, some 510)], ?_, ?_, ?_⟩
          · omega
          · omega
          simp [go_sem, ↓iO, iO, tN, hA2, hV2]
      · rw [if_neg he] at hst
        obtain ⟨h1, h2⟩ := Prod.mk.inj hst
        obtain ⟨_, _, rfl⟩ := In.mk.inj h1
        subst h2
        clear hst h1 hok hstep hte
        repeat (first | (refine nf1_sound rfl ?_; simp [go_sem, ↓iO, iO, tN, hf]; (repeat (refine anI ?_)); try (refine ⟨dcK, ?_⟩)) | ((first | refine itePos (by omega) ?_ | refine iteNeg (by omega) ?_); try simp [go_sem, ↓iO, iO, tN, hf]) | (refine ⟨dcK, ?_⟩))
        refine CallK.fn (cd) [] [] [] (by kernel_rfl) ?_ ?_ ?_ (Or.inl rfl) ?_ <;> simp [go_sem, ↓iO, iO, tN]
        repeat (refine anI ?_)
        try (refine ⟨dcK, ?_⟩)
        repeat (first | (refine nf1_sound rfl ?_; simp [go_sem, ↓iO, iO, tN, he]; (repeat (refine anI ?_)); try (refine ⟨dcK, ?_⟩)) | ((first | refine itePos (by omega) ?_ | refine iteNeg (by omega) ?_); try simp [go_sem, ↓iO, iO, tN, he]) | (refine ⟨dcK, ?_⟩))
        rw [RoundQ_normal]; refine ⟨k + 1, [(502, some 502), (504, some 504), (510, some 510)], ?_, ?_, ?_⟩
        · omega
        · omega
        simp [go_sem, ↓iO, iO, tN, hA2, hV2]
    · obtain rfl : k = fs.length := by omega
      obtain ⟨A, hA⟩ : ∃ A, L fs.length = A := ⟨_, rfl⟩
      obtain ⟨V, hV⟩ : ∃ V, g fs.length = V := ⟨_, rfl⟩
      rw [hA, hV]
      repeat (first | (refine nf1_sound rfl ?_; simp [go_sem, ↓iO, iO, tN]; (repeat (refine anI ?_)); try (refine ⟨dcK, ?_⟩)) | ((first | refine itePos (by omega) ?_ | refine iteNeg (by omega) ?_); try simp [go_sem, ↓iO, iO, tN]) | (refine ⟨dcK, ?_⟩))
      first | rw [RetQ_ret] | rw [RetQ_normal]
      refine ⟨[], ?_⟩
      simp [go_sem, ↓iO, iO, tN, wkXs]
  · have hcu : cutT tl = tl := by unfold cutT; rw [if_neg h400]
    rw [hcu] at hcut htm8 ⊢
    refine FnOk.intro fact_mixed Try.func27 rfl Try.ntmps27 (by rfl) (by simp) ?_
    repeat (first | (refine nf1_sound rfl ?_; simp [go_sem, ↓iO, iO, tN]; (repeat (refine anI ?_)); try (refine ⟨dcK, ?_⟩)) | ((first | refine itePos (by omega) ?_ | refine iteNeg (by omega) ?_); try simp [go_sem, ↓iO, iO, tN]) | (refine ⟨dcK, ?_⟩))
    refine CallK.fn (cv) [] [] [] (by kernel_rfl) ?_ ?_ ?_ (Or.inl rfl) ?_ <;> simp [go_sem, ↓iO, iO, tN]
    repeat (refine anI ?_)
    try (refine ⟨dcK, ?_⟩)
    repeat (first | (refine nf1_sound rfl ?_; simp [go_sem, ↓iO, iO, tN, happ]; (repeat (refine anI ?_)); try (refine ⟨dcK, ?_⟩)) | ((first | refine itePos (by omega) ?_ | refine iteNeg (by omega) ?_); try simp [go_sem, ↓iO, iO, tN, happ]) | (refine ⟨dcK, ?_⟩))
    refine CallK.fn (cf) [] [] [126] (by kernel_rfl) ?_ ?_ ?_ (Or.inl rfl) ?_ <;> simp [go_sem, ↓iO, iO, tN]
    repeat (refine anI ?_)
    try (refine ⟨dcK, ?_⟩)
    repeat (first | (refine nf1_sound rfl ?_; simp [go_sem, ↓iO, iO, tN]; (repeat (refine anI ?_)); try (refine ⟨dcK, ?_⟩)) | ((first | refine itePos (by omega) ?_ | refine iteNeg (by omega) ?_); try simp [go_sem, ↓iO, iO, tN]) | (refine ⟨dcK, ?_⟩))
    refine nf1_sound' _ _ _ ?_; simp only [nf1]
    refine CW.loop (ι := Nat) (fun k => ⟨[(2, .pt 502 [] 0), (4, .pt 504 [] 0), (7, .t (.sl 1 (fs.map encUs))), (10, .own 510), (41, .t (.int fs.length)), (42, .t (.int k))], [(502, .box 29 (.t (.agg [.int win, encUs tl, encWts (L k)]))), (504, .box 29 (.t (.agg [.int 0, .nil, .nil]))), (510, blkTgs (g k))]⟩) (fun k => k ≤ fs.length) (fun k => fs.length - k) 0 [(502, some 102), (504, some 104), (510, none)] (Nat.zero_le _) ?_ ?_
    · simp [go_sem, ↓iO, iO, tN, l0, g0]
    intro k hk
    by_cases hlt : k < fs.length
    · obtain ⟨f, hf⟩ := has_get hlt
      obtain ⟨hf1, hf2⟩ := hfm f (mem_get hf)
      have hst := hstep k f hf
      obtain ⟨hk1, hk2⟩ := hok k
      have hk3 := (hok (k + 1)).2
      obtain ⟨A, hA⟩ : ∃ A, L k = A := ⟨_, rfl⟩
      obtain ⟨V, hV⟩ : ∃ V, g k = V := ⟨_, rfl⟩
      obtain ⟨A2, hA2⟩ : ∃ A, L (k + 1) = A := ⟨_, rfl⟩
      obtain ⟨V2, hV2⟩ : ∃ V, g (k + 1) = V := ⟨_, rfl⟩
      rw [hA, hV, hA2, hV2] at hst
      rw [hA] at hk1
      rw [hV] at hk2
      rw [hV2] at hk3
      rw [hA, hV]
      obtain ⟨t, e, hte⟩ : ∃ t e, decV f = (t, e) := ⟨_, _, rfl⟩
      have cd := rdecode_fn f (by omega) hf2 t e hte
      unfold stepF at hst
      rw [hte] at hst
      dsimp only at hst
      by_cases he : e = 0
      · subst he
        rw [if_pos rfl] at hst
        obtain ⟨htok, _⟩ := dec_back hf2 hte
        have htv : t.vs.length ≤ 1000000 := by have := htok.ln; omega
        have hok2 : InOk ⟨win, tl, A⟩ := hk1.wt (t := tl) hcut.1 hcut.2
        have ca := raccept_fn ⟨win, tl, A⟩ t (hok2.sized htm8) htv hok2
        have hat := accV_tail ⟨win, tail, A⟩ tl t
        rw [show wt ⟨win, tail, A⟩ tl = (⟨win, tl, A⟩ : In) from rfl] at hat
        rw [hat] at ca
        have her := accV_err ⟨win, tail, A⟩ htok
        have hlen := accV_len hk1 t
        obtain ⟨s', o, e2, hacc⟩ : ∃ s' o e2, accV ⟨win, tail, A⟩ t = (s', o, e2) := ⟨_, _, _, rfl⟩
        rw [hacc] at hst ca her hlen
        dsimp only at hst her hlen
        obtain ⟨h1, h2⟩ := Prod.mk.inj hst
        subst h1
        subst h2
        clear hst hat hacc hok2 hok hstep hte hk1
        rcases her with rfl | her
        · repeat (first | (refine nf1_sound rfl ?_; simp [go_sem, ↓iO, iO, tN, hf]; (repeat (refine anI ?_)); try (refine ⟨dcK, ?_⟩)) | ((first | refine itePos (by omega) ?_ | refine iteNeg (by omega) ?_); try simp [go_sem, ↓iO, iO, tN, hf]) | (refine ⟨dcK, ?_⟩))
          refine CallK.fn (cd) [] [] [] (by kernel_rfl) ?_ ?_ ?_ (Or.inl rfl) ?_ <;> simp [go_sem, ↓iO, iO, tN]
          repeat (refine anI ?_)
          try (refine ⟨dcK, ?_⟩)
          repeat (first | (refine nf1_sound rfl ?_; simp [go_sem, ↓iO, iO, tN]; (repeat (refine anI ?_)); try (refine ⟨dcK, ?_⟩)) | ((first | refine itePos (by omega) ?_ | refine iteNeg (by omega) ?_); try simp [go_sem, ↓iO, iO, tN]) | (refine ⟨dcK, ?_⟩))
          refine CallK.fn (ca) [] [] [] (by kernel_rfl) ?_ ?_ ?_ (Or.inl rfl) ?_ <;> simp [go_sem, ↓iO, iO, tN]
          repeat (refine anI ?_)
          try (refine ⟨dcK, ?_⟩)
          repeat (first | (refine nf1_sound rfl ?_; simp [go_sem, ↓iO, iO, tN, wt]; (repeat (refine anI ?_)); try (refine ⟨dcK, ?_⟩)) | ((first | refine itePos (by omega) ?_ | refine iteNeg (by omega) ?_); try simp [go_sem, ↓iO, iO, tN, wt]) | (refine ⟨dcK, ?_⟩))
          rw [RoundQ_normal]; refine ⟨k + 1, [(502, some 502), (504, some 504), (510, some 167)], ?_, ?_, ?_⟩
          · omega
          · omega
          simp [go_sem, ↓iO, iO, tN, hA2, hV2]
        · obtain ⟨e1, e2', e3⟩ : A2 = A ∧ o = [] ∧ e2 = 4 := by
            have := Prod.mk.inj her
            have h3 := Prod.mk.inj this.2
            exact ⟨(In.mk.inj this.1).2.2, h3.1, h3.2⟩
          subst e1
          subst e2'
          subst e3
          rw [List.append_nil] at hV2
          repeat (first | (refine nf1_sound rfl ?_; simp [go_sem, ↓iO, iO, tN, hf]; (repeat (refine anI ?_)); try (refine ⟨dcK, ?_⟩)) | ((first | refine itePos (by omega) ?_ | refine iteNeg (by omega) ?_); try simp [go_sem, ↓iO, iO, tN, hf]) | (refine ⟨dcK, ?_⟩))
          refine CallK.fn (cd) [] [] [] (by kernel_rfl) ?_ ?_ ?_ (Or.inl rfl) ?_ <;> simp [go_sem, ↓iO, iO, tN]
          repeat (refine anI ?_)
          try (refine ⟨dcK, ?_⟩)
          repeat (first | (refine nf1_sound rfl ?_; simp [go_sem, ↓iO, iO, tN]; (repeat (refine anI ?_)); try (refine ⟨dcK, ?_⟩)) | ((first | refine itePos (by omega) ?_ | refine iteNeg (by omega) ?_); try simp [go_sem, ↓iO, iO, tN]) | (refine ⟨dcK, ?_⟩))
          refine CallK.fn (ca) [] [] [] (by kernel_rfl) ?_ ?_ ?_ (Or.inl rfl) ?_ <;> simp [go_sem, ↓iO, iO, tN]
          repeat (refine anI ?_)
          try (refine ⟨dcK, ?_⟩)
          repeat (first | (refine nf1_sound rfl ?_; simp [go_sem, ↓iO, iO, tN, wt]; (repeat (refine anI ?_)); try (refine ⟨dcK, ?_⟩)) | ((first | refine itePos (by omega) ?_ | refine iteNeg (by omega) ?_); try simp [go_sem, ↓iO, iO, tN, wt]) | (refine ⟨dcK, ?_⟩))
          rw [RoundQ_normal]; refine ⟨k + 1, [(502, some 502), (504, some 504), (510, some 510)], ?_, ?_, ?_⟩
          · omega
          · omega
          simp [go_sem, ↓iO, iO, tN, hA2, hV2]
      · rw [if_neg he] at hst
        obtain ⟨h1, h2⟩ := Prod.mk.inj hst
        obtain ⟨_, _, rfl⟩ := In.mk.inj h1
        subst h2
        clear hst h1 hok hstep hte
        repeat (first | (refine nf1_sound rfl ?_; simp [go_sem, ↓iO, iO, tN, hf]; (repeat (refine anI ?_)); try (refine ⟨dcK, ?_⟩)) | ((first | refine itePos (by omega) ?_ | refine iteNeg (by omega) ?_); try simp [go_sem, ↓iO, iO, tN, hf]) | (refine ⟨dcK, ?_⟩))
        refine CallK.fn (cd) [] [] [] (by kernel_rfl) ?_ ?_ ?_ (Or.inl rfl) ?_ <;> simp [go_sem, ↓iO, iO, tN]
        repeat (refine anI ?_)
        try (refine ⟨dcK, ?_⟩)
        repeat (first | (refine nf1_sound rfl ?_; simp [go_sem, ↓iO, iO, tN, he]; (repeat (refine anI ?_)); try (refine ⟨dcK, ?_⟩)) | ((first | refine itePos (by omega) ?_ | refine iteNeg (by omega) ?_); try simp [go_sem, ↓iO, iO, tN, he]) | (refine ⟨dcK, ?_⟩))
        rw [RoundQ_normal]; refine ⟨k + 1, [(502, some 502), (504, some 504), (510, some 510)], ?_, ?_, ?_⟩
        · omega
        · omega
        simp [go_sem, ↓iO, iO, tN, hA2, hV2]
    · obtain rfl : k = fs.length := by omega
      obtain ⟨A, hA⟩ : ∃ A, L fs.length = A := ⟨_, rfl⟩
      obtain ⟨V, hV⟩ : ∃ V, g fs.length = V := ⟨_, rfl⟩
      rw [hA, hV]
      repeat (first | (refine nf1_sound rfl ?_; simp [go_sem, ↓iO, iO, tN]; (repeat (refine anI ?_)); try (refine ⟨dcK, ?_⟩)) | ((first | refine itePos (by omega) ?_ | refine iteNeg (by omega) ?_); try simp [go_sem, ↓iO, iO, tN]) | (refine ⟨dcK, ?_⟩))
      first | rw [RetQ_ret] | rw [RetQ_normal]
      refine ⟨[], ?_⟩
      simp [go_sem, ↓iO, iO, tN, wkXs]
/-- The state of which the laws speak. -/
theorem state_ex {l : List Int} {k : Nat} (h : SrcOk l k) : ∃ (k' : Nat) (win : Int) (n : Nat) (bs : List Nat), SrcOk l k' ∧ (0 ≤ win ∧ win < 4) ∧ Strm n bs ∧ n ≤ 13 ∧ FnOk Try.prog 15 [.pt 0 [] 0] [(0, srcB l k)] (.t (encIn (feedV ⟨win, [], []⟩ bs).1)) [(0, srcB l k')] := by
  obtain ⟨win, hwin, c0⟩ := n_ex h 4 (by omega) (by omega)
  obtain ⟨k2, bs, n, hk2, hbs, hn, c1⟩ := stream_ex h.next
  refine ⟨k2, win, n, bs, hk2, hwin, hbs, hn, ?_⟩
  have cw := irnew_fn win ⟨win, [], []⟩ 0 (by unfold newV; rw [if_neg (by omega)])
  have hi0 : InOk ⟨win, [], []⟩ := inOk_of (by dsimp only; omega) (by dsimp only; omega) (by simp) (by simp) (.inl rfl) (by simp) trivial
  have hl := hbs.len
  have cf := rfeed_fn ⟨win, [], []⟩ bs (hi0.sized (by simp)) (by omega) hl.2 hi0
  obtain ⟨o, ho⟩ : ∃ o, (feedV ⟨win, [], []⟩ bs).2 = o := ⟨_, rfl⟩
  obtain ⟨E, hE⟩ : ∃ E, (feedV ⟨win, [], []⟩ bs).1 = E := ⟨_, rfl⟩
  rw [ho, hE] at cf
  rw [hE]
  obtain ⟨e1, e2, e3⟩ := E
  have hll := hl.1
  clear ho hE hbs hl
  refine FnOk.intro fact_mixed Try.func15 rfl Try.ntmps15 (by rfl) (by simp) ?_
  repeat (first | (refine nf1_sound rfl ?_; simp [go_sem, ↓iO, iO, tN]; (repeat (refine anI ?_)); try (refine ⟨dcK, ?_⟩)) | ((first | refine itePos (by omega) ?_ | refine iteNeg (by omega) ?_); try simp [go_sem, ↓iO, iO, tN]) | (refine ⟨dcK, ?_⟩))
  refine CallK.fn (c0) [(0, 0)] [] [] (by kernel_rfl) ?_ ?_ ?_ (Or.inl rfl) ?_ <;> simp [go_sem, ↓iO, iO, tN]
  repeat (refine anI ?_)
  try (refine ⟨dcK, ?_⟩)
  refine CallK.fn (cw) [] [] [] (by kernel_rfl) ?_ ?_ ?_ (Or.inl rfl) ?_ <;> simp [go_sem, ↓iO, iO, tN]
  repeat (refine anI ?_)
  try (refine ⟨dcK, ?_⟩)
  repeat (first | (refine nf1_sound rfl ?_; simp [go_sem, ↓iO, iO, tN]; (repeat (refine anI ?_)); try (refine ⟨dcK, ?_⟩)) | ((first | refine itePos (by omega) ?_ | refine iteNeg (by omega) ?_); try simp [go_sem, ↓iO, iO, tN]) | (refine ⟨dcK, ?_⟩))
  refine CallK.fn (c1) [(0, 0), (1000, 614)] [] [] (by kernel_rfl) ?_ ?_ ?_ (Or.inl rfl) ?_ <;> simp [go_sem, ↓iO, iO, tN]
  repeat (refine anI ?_)
  try (refine ⟨dcK, ?_⟩)
  refine CallK.fn (cf) [] [] [614] (by kernel_rfl) ?_ ?_ ?_ (Or.inl rfl) ?_ <;> simp [go_sem, ↓iO, iO, tN]
  repeat (refine anI ?_)
  try (refine ⟨dcK, ?_⟩)
  repeat (first | (refine nf1_sound rfl ?_; simp [go_sem, ↓iO, iO, tN]; (repeat (refine anI ?_)); try (refine ⟨dcK, ?_⟩)) | ((first | refine itePos (by omega) ?_ | refine iteNeg (by omega) ?_); try simp [go_sem, ↓iO, iO, tN]) | (refine ⟨dcK, ?_⟩))
  first | rw [RetQ_ret] | rw [RetQ_normal]
  refine ⟨[(0, some 0)], ?_⟩
  simp [go_sem, ↓iO, iO, tN, wkXs]
end Go.Proofs.Ytopmmodcaoaaeaa
