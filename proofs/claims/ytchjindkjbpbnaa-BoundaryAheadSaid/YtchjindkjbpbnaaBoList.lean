/- List, of the program and of the reference, and Same, as contracts. No condition. -/
import Derived.Test.YtchjindkjbpbnaaPiRValid
namespace Go.Proofs.Ytchjindkjbpbnaa
open Go.RowKit Sy
set_option linter.unusedVariables false
set_option linter.unusedSimpArgs false
@[go_sem] def encBd (x : Int × Int × Int) : T := .agg [.int x.1, .int x.2.1, .int x.2.2]
@[go_sem] def encBds (l : List (Int × Int × Int)) : T := .sl 3 (l.map encBd)
@[go_sem] def blkBd (l : List (Int × Int × Int)) : Blk := .list 44 3 (l.map encBd)
@[go_sem] theorem flat_encBd : ∀ l : List (Int × Int × Int), flatTs (l.map encBd)
  | [] => by simp [flatTs]
  | p :: r => by simp [flatTs, flatT, encBd, flat_encBd r]
/-- The boundary behind piece k. -/
def bdAt (f : List (Int × Int)) (k : Nat) : Int × Int × Int := (Pc.vol (f.take (k + 1)), ((f[k]?).getD (0, 0)).1, ((f[k + 1]?).getD (0, 0)).1)
def listV (f : List (Int × Int)) : List (Int × Int × Int) := (List.range (f.length - 1)).map (bdAt f)
noncomputable def listR (f : List (Int × Int)) : List (Int × Int × Int) × Int := if Pc.valid f = true then (listV f, 0) else ([], 9)
theorem list_ex (f : List (Int × Int)) : ∃ Y : Nat → List (Int × Int × Int), Y 0 = [] ∧ (∀ k p q, f[k]? = some p → f[k + 1]? = some q → Y (k + 1) = Y k ++ [(Pc.vol (f.take k) + p.2, p.1, q.1)]) ∧ Y (f.length - 1) = listV f ∧ ∀ k, (Y k).length = k := by
  refine ⟨fun k => (List.range k).map (bdAt f), rfl, ?_, rfl, fun k => by simp⟩
  intro k p q hp hq
  simp only [List.range_succ, List.map_append, List.map_cons, List.map_nil]
  unfold bdAt
  rw [Pc.vol_snoc hp, hp, hq]
  rfl
set_option maxRecDepth 100000 in
set_option maxHeartbeats 8000000 in
theorem list_fn (f : List (Int × Int)) (hl : f.length ≤ 1000000) (x : List (Int × Int × Int)) (e : Int) (hr : listR f = (x, e)) : FnOk Try.prog 13 [.t (encPs f)] [] (.tup [.own 1000, .t (.int e)]) [(1000, blkBd x)] := by
  unfold listR at hr
  by_cases hv : Pc.valid f = true
  · rw [if_pos hv] at hr
    obtain ⟨rfl, rfl⟩ := Prod.mk.inj hr
    have hvd := Pc.valid_iff.1 hv
    have hlen := hvd.len
    obtain ⟨Y, y0, ys, ye, yl⟩ := list_ex f
    rw [← ye]
    refine FnOk.intro fact_mixed Try.func13 rfl Try.ntmps13 (by rfl) (by simp) ?_
    repeat (first | (refine nf1_sound rfl ?_; simp [go_sem, ↓IntWalk.iteOmega, IntWalk.iteOmega, IntWalk.toNatUp]; (repeat (refine And.intro (by omega) ?_)); try (refine ⟨DrawChk_of (by kernel_rfl), ?_⟩)) | (refine itePos (by omega) ?_; try simp [go_sem, ↓IntWalk.iteOmega, IntWalk.iteOmega, IntWalk.toNatUp]) | (refine iteNeg (by omega) ?_; try simp [go_sem, ↓IntWalk.iteOmega, IntWalk.iteOmega, IntWalk.toNatUp]) | (refine ⟨DrawChk_of (by kernel_rfl), ?_⟩))
    refine CallK.fn (valid_fn' f hl true hv) [] [] [] (by kernel_rfl) (by simp [go_sem, ↓IntWalk.iteOmega, IntWalk.iteOmega, IntWalk.toNatUp]) (by simp [go_sem, ↓IntWalk.iteOmega, IntWalk.iteOmega, IntWalk.toNatUp]) (by simp [go_sem, ↓IntWalk.iteOmega, IntWalk.iteOmega, IntWalk.toNatUp]) (Or.inl rfl) ?_
    simp [go_sem, ↓IntWalk.iteOmega, IntWalk.iteOmega, IntWalk.toNatUp]
    repeat (refine And.intro (by omega) ?_)
    try (refine ⟨DrawChk_of (by kernel_rfl), ?_⟩)
    repeat (first | (refine nf1_sound rfl ?_; simp [go_sem, ↓IntWalk.iteOmega, IntWalk.iteOmega, IntWalk.toNatUp]; (repeat (refine And.intro (by omega) ?_)); try (refine ⟨DrawChk_of (by kernel_rfl), ?_⟩)) | (refine itePos (by omega) ?_; try simp [go_sem, ↓IntWalk.iteOmega, IntWalk.iteOmega, IntWalk.toNatUp]) | (refine iteNeg (by omega) ?_; try simp [go_sem, ↓IntWalk.iteOmega, IntWalk.iteOmega, IntWalk.toNatUp]) | (refine ⟨DrawChk_of (by kernel_rfl), ?_⟩))
    refine nf1_sound' _ _ _ ?_; simp only [nf1]
    refine CW.loop (ι := Nat) (fun k => ⟨[(0, .t (encPs f)), (4, .own 504), (5, .t (.int (Pc.vol (f.take k)))), (6, .t (.int ((k + 1 : Nat) : Int)))], [(504, blkBd (Y k))]⟩) (fun k => k ≤ f.length - 1) (fun k => f.length - k) 0 [(504, none)] (by omega) ?_ ?_
    · simp [go_sem, ↓IntWalk.iteOmega, IntWalk.iteOmega, IntWalk.toNatUp, y0, Pc.vol]
    intro k hk
    have hyl := yl k
    by_cases hb : k + 1 < f.length
    · obtain ⟨p, hp⟩ := has_get (show k < f.length by omega)
      obtain ⟨q, hq⟩ := has_get hb
      have hsn := Pc.vol_snoc hp
      have hvs := (hvd.sane.take k).vol
      have hpv := hvd.sane.each p (mem_get hp)
      have hy := ys k p q hp hq
      obtain ⟨p1, p2⟩ := p
      obtain ⟨q1, q2⟩ := q
      dsimp only at hy hsn hpv
      obtain ⟨V, hV⟩ : ∃ V, Pc.vol (f.take k) = V := ⟨_, rfl⟩
      obtain ⟨Z, hZ⟩ : ∃ Z, Y k = Z := ⟨_, rfl⟩
      rw [hV] at hsn hvs hy ⊢
      rw [hZ] at hy hyl ⊢
      repeat (first | (refine nf1_sound rfl ?_; simp [go_sem, ↓IntWalk.iteOmega, IntWalk.iteOmega, IntWalk.toNatUp, hp, hq]; (repeat (refine And.intro (by omega) ?_)); try (refine ⟨DrawChk_of (by kernel_rfl), ?_⟩)) | (refine itePos (by omega) ?_; try simp [go_sem, ↓IntWalk.iteOmega, IntWalk.iteOmega, IntWalk.toNatUp, hp, hq]) | (refine iteNeg (by omega) ?_; try simp [go_sem, ↓IntWalk.iteOmega, IntWalk.iteOmega, IntWalk.toNatUp, hp, hq]) | (refine ⟨DrawChk_of (by kernel_rfl), ?_⟩))
      rw [RoundQ_normal]; refine ⟨k + 1, [(504, some 139)], ?_, ?_, ?_⟩
      · omega
      · omega
      simp [go_sem, ↓IntWalk.iteOmega, IntWalk.iteOmega, IntWalk.toNatUp, hy, hsn]
    · obtain rfl : k = f.length - 1 := by omega
      repeat (first | (refine nf1_sound rfl ?_; simp [go_sem, ↓IntWalk.iteOmega, IntWalk.iteOmega, IntWalk.toNatUp]; (repeat (refine And.intro (by omega) ?_)); try (refine ⟨DrawChk_of (by kernel_rfl), ?_⟩)) | (refine itePos (by omega) ?_; try simp [go_sem, ↓IntWalk.iteOmega, IntWalk.iteOmega, IntWalk.toNatUp]) | (refine iteNeg (by omega) ?_; try simp [go_sem, ↓IntWalk.iteOmega, IntWalk.iteOmega, IntWalk.toNatUp]) | (refine ⟨DrawChk_of (by kernel_rfl), ?_⟩))
      first | rw [RetQ_ret] | rw [RetQ_normal]
      refine ⟨[(1000, some 504)], ?_⟩
      simp [go_sem, ↓IntWalk.iteOmega, IntWalk.iteOmega, IntWalk.toNatUp]
  · rw [if_neg hv] at hr
    obtain ⟨rfl, rfl⟩ := Prod.mk.inj hr
    refine FnOk.intro fact_mixed Try.func13 rfl Try.ntmps13 (by rfl) (by simp) ?_
    repeat (first | (refine nf1_sound rfl ?_; simp [go_sem, ↓IntWalk.iteOmega, IntWalk.iteOmega, IntWalk.toNatUp]; (repeat (refine And.intro (by omega) ?_)); try (refine ⟨DrawChk_of (by kernel_rfl), ?_⟩)) | (refine itePos (by omega) ?_; try simp [go_sem, ↓IntWalk.iteOmega, IntWalk.iteOmega, IntWalk.toNatUp]) | (refine iteNeg (by omega) ?_; try simp [go_sem, ↓IntWalk.iteOmega, IntWalk.iteOmega, IntWalk.toNatUp]) | (refine ⟨DrawChk_of (by kernel_rfl), ?_⟩))
    refine CallK.fn (valid_fn' f hl false (nvalid hv)) [] [] [] (by kernel_rfl) (by simp [go_sem, ↓IntWalk.iteOmega, IntWalk.iteOmega, IntWalk.toNatUp]) (by simp [go_sem, ↓IntWalk.iteOmega, IntWalk.iteOmega, IntWalk.toNatUp]) (by simp [go_sem, ↓IntWalk.iteOmega, IntWalk.iteOmega, IntWalk.toNatUp]) (Or.inl rfl) ?_
    simp [go_sem, ↓IntWalk.iteOmega, IntWalk.iteOmega, IntWalk.toNatUp]
    repeat (refine And.intro (by omega) ?_)
    try (refine ⟨DrawChk_of (by kernel_rfl), ?_⟩)
    repeat (first | (refine nf1_sound rfl ?_; simp [go_sem, ↓IntWalk.iteOmega, IntWalk.iteOmega, IntWalk.toNatUp]; (repeat (refine And.intro (by omega) ?_)); try (refine ⟨DrawChk_of (by kernel_rfl), ?_⟩)) | (refine itePos (by omega) ?_; try simp [go_sem, ↓IntWalk.iteOmega, IntWalk.iteOmega, IntWalk.toNatUp]) | (refine iteNeg (by omega) ?_; try simp [go_sem, ↓IntWalk.iteOmega, IntWalk.iteOmega, IntWalk.toNatUp]) | (refine ⟨DrawChk_of (by kernel_rfl), ?_⟩))
    first | rw [RetQ_ret] | rw [RetQ_normal]
    refine ⟨[(1000, none)], ?_⟩
    simp [go_sem, ↓IntWalk.iteOmega, IntWalk.iteOmega, IntWalk.toNatUp]
set_option maxRecDepth 100000 in
set_option maxHeartbeats 8000000 in
theorem rlist_fn (f : List (Int × Int)) (hl : f.length ≤ 1000000) (x : List (Int × Int × Int)) (e : Int) (hr : listR f = (x, e)) : FnOk Try.prog 14 [.t (encPs f)] [] (.tup [.own 1000, .t (.int e)]) [(1000, blkBd x)] := by
  unfold listR at hr
  by_cases hv : Pc.valid f = true
  · rw [if_pos hv] at hr
    obtain ⟨rfl, rfl⟩ := Prod.mk.inj hr
    have hvd := Pc.valid_iff.1 hv
    have hlen := hvd.len
    obtain ⟨Y, y0, ys, ye, yl⟩ := list_ex f
    rw [← ye]
    refine FnOk.intro fact_mixed Try.func14 rfl Try.ntmps14 (by rfl) (by simp) ?_
    repeat (first | (refine nf1_sound rfl ?_; simp [go_sem, ↓IntWalk.iteOmega, IntWalk.iteOmega, IntWalk.toNatUp]; (repeat (refine And.intro (by omega) ?_)); try (refine ⟨DrawChk_of (by kernel_rfl), ?_⟩)) | (refine itePos (by omega) ?_; try simp [go_sem, ↓IntWalk.iteOmega, IntWalk.iteOmega, IntWalk.toNatUp]) | (refine iteNeg (by omega) ?_; try simp [go_sem, ↓IntWalk.iteOmega, IntWalk.iteOmega, IntWalk.toNatUp]) | (refine ⟨DrawChk_of (by kernel_rfl), ?_⟩))
    refine CallK.fn (rvalid_fn f hl true hv) [] [] [] (by kernel_rfl) (by simp [go_sem, ↓IntWalk.iteOmega, IntWalk.iteOmega, IntWalk.toNatUp]) (by simp [go_sem, ↓IntWalk.iteOmega, IntWalk.iteOmega, IntWalk.toNatUp]) (by simp [go_sem, ↓IntWalk.iteOmega, IntWalk.iteOmega, IntWalk.toNatUp]) (Or.inl rfl) ?_
    simp [go_sem, ↓IntWalk.iteOmega, IntWalk.iteOmega, IntWalk.toNatUp]
    repeat (refine And.intro (by omega) ?_)
    try (refine ⟨DrawChk_of (by kernel_rfl), ?_⟩)
    repeat (first | (refine nf1_sound rfl ?_; simp [go_sem, ↓IntWalk.iteOmega, IntWalk.iteOmega, IntWalk.toNatUp]; (repeat (refine And.intro (by omega) ?_)); try (refine ⟨DrawChk_of (by kernel_rfl), ?_⟩)) | (refine itePos (by omega) ?_; try simp [go_sem, ↓IntWalk.iteOmega, IntWalk.iteOmega, IntWalk.toNatUp]) | (refine iteNeg (by omega) ?_; try simp [go_sem, ↓IntWalk.iteOmega, IntWalk.iteOmega, IntWalk.toNatUp]) | (refine ⟨DrawChk_of (by kernel_rfl), ?_⟩))
    refine nf1_sound' _ _ _ ?_; simp only [nf1]
    refine CW.loop (ι := Nat) (fun k => ⟨[(0, .t (encPs f)), (4, .own 504), (5, .t (.int ((k + 1 : Nat) : Int)))], [(504, blkBd (Y k))]⟩) (fun k => k ≤ f.length - 1) (fun k => f.length - k) 0 [(504, none)] (by omega) ?_ ?_
    · simp [go_sem, ↓IntWalk.iteOmega, IntWalk.iteOmega, IntWalk.toNatUp, y0]
    intro k hk
    have hyl := yl k
    by_cases hb : k + 1 < f.length
    · obtain ⟨p, hp⟩ := has_get (show k < f.length by omega)
      obtain ⟨q, hq⟩ := has_get hb
      have cs := sum_fn (f.take (k + 1)) (hvd.sane.take (k + 1))
      have hvs := (hvd.sane.take (k + 1)).vol
      have hsn := Pc.vol_snoc hp
      have hy := ys k p q hp hq
      rw [← hsn] at hy
      obtain ⟨p1, p2⟩ := p
      obtain ⟨q1, q2⟩ := q
      dsimp only at hy
      obtain ⟨V, hV⟩ : ∃ V, Pc.vol (f.take (k + 1)) = V := ⟨_, rfl⟩
      obtain ⟨Z, hZ⟩ : ∃ Z, Y k = Z := ⟨_, rfl⟩
      rw [hV] at cs hvs hy
      rw [hZ] at hy hyl ⊢
      repeat (first | (refine nf1_sound rfl ?_; simp [go_sem, ↓IntWalk.iteOmega, IntWalk.iteOmega, IntWalk.toNatUp, hp, hq]; (repeat (refine And.intro (by omega) ?_)); try (refine ⟨DrawChk_of (by kernel_rfl), ?_⟩)) | (refine itePos (by omega) ?_; try simp [go_sem, ↓IntWalk.iteOmega, IntWalk.iteOmega, IntWalk.toNatUp, hp, hq]) | (refine iteNeg (by omega) ?_; try simp [go_sem, ↓IntWalk.iteOmega, IntWalk.iteOmega, IntWalk.toNatUp, hp, hq]) | (refine ⟨DrawChk_of (by kernel_rfl), ?_⟩))
      refine CallK.fn (cs) [] [] [] (by kernel_rfl) (by simp [go_sem, ↓IntWalk.iteOmega, IntWalk.iteOmega, IntWalk.toNatUp, hp, hq]) (by simp [go_sem, ↓IntWalk.iteOmega, IntWalk.iteOmega, IntWalk.toNatUp, hp, hq]) (by simp [go_sem, ↓IntWalk.iteOmega, IntWalk.iteOmega, IntWalk.toNatUp, hp, hq]) (Or.inl rfl) ?_
      simp [go_sem, ↓IntWalk.iteOmega, IntWalk.iteOmega, IntWalk.toNatUp, hp, hq]
      repeat (refine And.intro (by omega) ?_)
      try (refine ⟨DrawChk_of (by kernel_rfl), ?_⟩)
      repeat (first | (refine nf1_sound rfl ?_; simp [go_sem, ↓IntWalk.iteOmega, IntWalk.iteOmega, IntWalk.toNatUp, hp, hq]; (repeat (refine And.intro (by omega) ?_)); try (refine ⟨DrawChk_of (by kernel_rfl), ?_⟩)) | (refine itePos (by omega) ?_; try simp [go_sem, ↓IntWalk.iteOmega, IntWalk.iteOmega, IntWalk.toNatUp, hp, hq]) | (refine iteNeg (by omega) ?_; try simp [go_sem, ↓IntWalk.iteOmega, IntWalk.iteOmega, IntWalk.toNatUp, hp, hq]) | (refine ⟨DrawChk_of (by kernel_rfl), ?_⟩))
      rw [RoundQ_normal]; refine ⟨k + 1, [(504, some 133)], ?_, ?_, ?_⟩
      · omega
      · omega
      simp [go_sem, ↓IntWalk.iteOmega, IntWalk.iteOmega, IntWalk.toNatUp, hy]
    · obtain rfl : k = f.length - 1 := by omega
      repeat (first | (refine nf1_sound rfl ?_; simp [go_sem, ↓IntWalk.iteOmega, IntWalk.iteOmega, IntWalk.toNatUp]; (repeat (refine And.intro (by omega) ?_)); try (refine ⟨DrawChk_of (by kernel_rfl), ?_⟩)) | (refine itePos (by omega) ?_; try simp [go_sem, ↓IntWalk.iteOmega, IntWalk.iteOmega, IntWalk.toNatUp]) | (refine iteNeg (by omega) ?_; try simp [go_sem, ↓IntWalk.iteOmega, IntWalk.iteOmega, IntWalk.toNatUp]) | (refine ⟨DrawChk_of (by kernel_rfl), ?_⟩))
      first | rw [RetQ_ret] | rw [RetQ_normal]
      refine ⟨[(1000, some 504)], ?_⟩
      simp [go_sem, ↓IntWalk.iteOmega, IntWalk.iteOmega, IntWalk.toNatUp]
  · rw [if_neg hv] at hr
    obtain ⟨rfl, rfl⟩ := Prod.mk.inj hr
    refine FnOk.intro fact_mixed Try.func14 rfl Try.ntmps14 (by rfl) (by simp) ?_
    repeat (first | (refine nf1_sound rfl ?_; simp [go_sem, ↓IntWalk.iteOmega, IntWalk.iteOmega, IntWalk.toNatUp]; (repeat (refine And.intro (by omega) ?_)); try (refine ⟨DrawChk_of (by kernel_rfl), ?_⟩)) | (refine itePos (by omega) ?_; try simp [go_sem, ↓IntWalk.iteOmega, IntWalk.iteOmega, IntWalk.toNatUp]) | (refine iteNeg (by omega) ?_; try simp [go_sem, ↓IntWalk.iteOmega, IntWalk.iteOmega, IntWalk.toNatUp]) | (refine ⟨DrawChk_of (by kernel_rfl), ?_⟩))
    refine CallK.fn (rvalid_fn f hl false (nvalid hv)) [] [] [] (by kernel_rfl) (by simp [go_sem, ↓IntWalk.iteOmega, IntWalk.iteOmega, IntWalk.toNatUp]) (by simp [go_sem, ↓IntWalk.iteOmega, IntWalk.iteOmega, IntWalk.toNatUp]) (by simp [go_sem, ↓IntWalk.iteOmega, IntWalk.iteOmega, IntWalk.toNatUp]) (Or.inl rfl) ?_
    simp [go_sem, ↓IntWalk.iteOmega, IntWalk.iteOmega, IntWalk.toNatUp]
    repeat (refine And.intro (by omega) ?_)
    try (refine ⟨DrawChk_of (by kernel_rfl), ?_⟩)
    repeat (first | (refine nf1_sound rfl ?_; simp [go_sem, ↓IntWalk.iteOmega, IntWalk.iteOmega, IntWalk.toNatUp]; (repeat (refine And.intro (by omega) ?_)); try (refine ⟨DrawChk_of (by kernel_rfl), ?_⟩)) | (refine itePos (by omega) ?_; try simp [go_sem, ↓IntWalk.iteOmega, IntWalk.iteOmega, IntWalk.toNatUp]) | (refine iteNeg (by omega) ?_; try simp [go_sem, ↓IntWalk.iteOmega, IntWalk.iteOmega, IntWalk.toNatUp]) | (refine ⟨DrawChk_of (by kernel_rfl), ?_⟩))
    first | rw [RetQ_ret] | rw [RetQ_normal]
    refine ⟨[(1000, none)], ?_⟩
    simp [go_sem, ↓IntWalk.iteOmega, IntWalk.iteOmega, IntWalk.toNatUp]
set_option maxRecDepth 100000 in
set_option maxHeartbeats 4000000 in
theorem sameB_fn (a : List (Int × Int × Int)) (ha : a.length ≤ 1000000) : FnOk Try.prog 15 [.t (encBds a), .t (encBds a)] [] (.t (.bool true)) [] := by
  refine FnOk.intro fact_mixed Try.func15 rfl Try.ntmps15 (by rfl) (by simp) ?_
  repeat (first | (refine nf1_sound rfl ?_; simp [go_sem, ↓IntWalk.iteOmega, IntWalk.iteOmega, IntWalk.toNatUp]; (repeat (refine And.intro (by omega) ?_)); try (refine ⟨DrawChk_of (by kernel_rfl), ?_⟩)) | (refine itePos (by omega) ?_; try simp [go_sem, ↓IntWalk.iteOmega, IntWalk.iteOmega, IntWalk.toNatUp]) | (refine iteNeg (by omega) ?_; try simp [go_sem, ↓IntWalk.iteOmega, IntWalk.iteOmega, IntWalk.toNatUp]) | (refine ⟨DrawChk_of (by kernel_rfl), ?_⟩))
  refine nf1_sound' _ _ _ ?_; simp only [nf1]
  refine CW.loop (ι := Nat) (fun k => ⟨[(0, .t (encBds a)), (1, .t (encBds a)), (12, .t (.int a.length)), (13, .t (.int k))], []⟩) (fun k => k ≤ a.length) (fun k => a.length - k) 0 [] (by omega) ?_ ?_
  · simp [go_sem, ↓IntWalk.iteOmega, IntWalk.iteOmega, IntWalk.toNatUp]
  intro k hk
  by_cases hb : k < a.length
  · obtain ⟨x, hx⟩ := has_get hb
    obtain ⟨x1, x2, x3⟩ := x
    repeat (first | (refine nf1_sound rfl ?_; simp [go_sem, ↓IntWalk.iteOmega, IntWalk.iteOmega, IntWalk.toNatUp, hx]; (repeat (refine And.intro (by omega) ?_)); try (refine ⟨DrawChk_of (by kernel_rfl), ?_⟩)) | (refine itePos (by omega) ?_; try simp [go_sem, ↓IntWalk.iteOmega, IntWalk.iteOmega, IntWalk.toNatUp, hx]) | (refine iteNeg (by omega) ?_; try simp [go_sem, ↓IntWalk.iteOmega, IntWalk.iteOmega, IntWalk.toNatUp, hx]) | (refine ⟨DrawChk_of (by kernel_rfl), ?_⟩))
    rw [RoundQ_normal]; refine ⟨k + 1, [], ?_, ?_, ?_⟩
    · omega
    · omega
    simp [go_sem, ↓IntWalk.iteOmega, IntWalk.iteOmega, IntWalk.toNatUp]
  · obtain rfl : k = a.length := by omega
    repeat (first | (refine nf1_sound rfl ?_; simp [go_sem, ↓IntWalk.iteOmega, IntWalk.iteOmega, IntWalk.toNatUp]; (repeat (refine And.intro (by omega) ?_)); try (refine ⟨DrawChk_of (by kernel_rfl), ?_⟩)) | (refine itePos (by omega) ?_; try simp [go_sem, ↓IntWalk.iteOmega, IntWalk.iteOmega, IntWalk.toNatUp]) | (refine iteNeg (by omega) ?_; try simp [go_sem, ↓IntWalk.iteOmega, IntWalk.iteOmega, IntWalk.toNatUp]) | (refine ⟨DrawChk_of (by kernel_rfl), ?_⟩))
    first | rw [RetQ_ret] | rw [RetQ_normal]
    refine ⟨[], ?_⟩
    simp [go_sem, ↓IntWalk.iteOmega, IntWalk.iteOmega, IntWalk.toNatUp]
end Go.Proofs.Ytchjindkjbpbnaa
