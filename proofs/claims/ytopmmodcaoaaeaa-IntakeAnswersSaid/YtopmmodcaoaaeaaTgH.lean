/- keep.Telegram as a contract: a valid telegram of the station. No condition. -/
import Derived.Test.YtopmmodcaoaaeaaTgB
import Derived.Test.YtopmmodcaoaaeaaTgD
import Derived.Test.YtopmmodcaoaaeaaKPick
namespace Go.Proofs.Ytopmmodcaoaaeaa
open Go.RowKit Sy
open Go.IntWalk renaming iteOmega → iO, toNatUp → tN
set_option linter.unusedVariables false
set_option linter.unusedSimpArgs false
theorem draws_ex {l : List Int} {k : Nat} (h : SrcOk l k) (xs : List Int) (h1 : 1 ≤ xs.length) (h2 : xs.length ≤ 1000000) :
    ∃ (K : Nat → Nat) (V : Nat → List Int) (x : Nat → Int), K 0 = k ∧ V 0 = [] ∧ ∀ j, K (j + 1) = nextK l (K j) ∧ V (j + 1) = V j ++ [x j] ∧ SrcOk l (K j) ∧ (V j).length = j ∧ (∀ v ∈ V j, v ∈ xs) ∧
      FnOk Try.prog 36 [.pt 0 [] 0, .t (encIs xs)] [(0, srcB l (K j))] (.t (.int (x j))) [(0, srcB l (K (j + 1)))] := by
  have hs : ∀ j, SrcOk l (iter (nextK l) j k) := iter_inv (C := fun _ k => SrcOk l k) h fun j t ht => ht.next
  refine ⟨fun j => iter (nextK l) j k, fun j => (List.range j).map fun i => pickV l (iter (nextK l) i k) xs, fun j => pickV l (iter (nextK l) j k) xs, rfl, rfl, ?_⟩
  intro j
  refine ⟨rfl, by dsimp only; rw [List.range_succ, List.map_append]; rfl, hs j, by simp, ?_, pick_fn (hs j) xs h1 h2⟩
  intro v hv
  obtain ⟨i, _, rfl⟩ := List.mem_map.1 hv
  exact pickV_mem h1
set_option maxRecDepth 100000 in
set_option maxHeartbeats 8000000 in
theorem telegram_ex {l : List Int} {k : Nat} (h : SrcOk l k) (st : Int) (hst : 0 ≤ st ∧ st ≤ 255) :
    ∃ k' t, SrcOk l k' ∧ TgOk t ∧ t.st = st ∧ t.vs.length ≤ 3 ∧ FnOk Try.prog 17 [.pt 0 [] 0, .t (.int st)] [(0, srcB l k)] (tgS t 1000) [(0, srcB l k'), (1000, blkI t.vs)] := by
  obtain ⟨ep, hep, c1⟩ := n_ex h 3 (by omega) (by omega)
  obtain ⟨sq, hsq, c2⟩ := n_ex h.next 6 (by omega) (by omega)
  obtain ⟨tm, htm, c3⟩ := pick_ex h.next.next [0, 125, 63, 62, 1099511627776] (by simp) (by simp)
  obtain ⟨kd, hkd, c4⟩ := n_ex h.next.next.next 64 (by omega) (by omega)
  obtain ⟨n, hn, c5⟩ := n_ex h.next.next.next.next 4 (by omega) (by omega)
  obtain ⟨K, V, x, K0, V0, hj⟩ := draws_ex h.next.next.next.next.next [0, -1, 62, 63, -63, -62, 9007199254740992, -9007199254740992, 126, 1000] (by simp) (by simp)
  obtain ⟨_, _, f3, f4, f5, _⟩ := hj n.toNat
  refine ⟨K n.toNat, ⟨st, ep, sq, tm, kd, V n.toNat⟩, f3, ⟨hst, by dsimp only; omega, by dsimp only; omega, ?_, by dsimp only; omega, by dsimp only; omega, ?_⟩, rfl, by dsimp only; omega, ?_⟩
  · simp only [List.mem_cons, List.not_mem_nil, or_false] at htm
    dsimp only
    omega
  · intro v hv
    have := f5 v hv
    simp only [List.mem_cons, List.not_mem_nil, or_false] at this
    unfold okN
    omega
  clear f3 f4 f5 htm
  refine FnOk.intro fact_mixed Try.func17 rfl Try.ntmps17 (by rfl) (by simp) ?_
  repeat (first | (refine nf1_sound rfl ?_; simp [go_sem, ↓iO, iO, tN]; (repeat (refine anI ?_)); try (refine ⟨dcK, ?_⟩)) | ((first | refine itePos (by omega) ?_ | refine iteNeg (by omega) ?_); try simp [go_sem, ↓iO, iO, tN]) | (refine ⟨dcK, ?_⟩))
  refine CallK.fn (c1) [(0, 0)] [] [] (by kernel_rfl) ?_ ?_ ?_ (Or.inl rfl) ?_ <;> simp [go_sem, ↓iO, iO, tN]
  repeat (refine anI ?_)
  try (refine ⟨dcK, ?_⟩)
  refine CallK.fn (c2) [(0, 0)] [] [] (by kernel_rfl) ?_ ?_ ?_ (Or.inl rfl) ?_ <;> simp [go_sem, ↓iO, iO, tN]
  repeat (refine anI ?_)
  try (refine ⟨dcK, ?_⟩)
  refine CallK.fn (c3) [(0, 0)] [] [113] (by kernel_rfl) ?_ ?_ ?_ (Or.inl rfl) ?_ <;> simp [go_sem, ↓iO, iO, tN]
  repeat (refine anI ?_)
  try (refine ⟨dcK, ?_⟩)
  refine CallK.fn (c4) [(0, 0)] [] [] (by kernel_rfl) ?_ ?_ ?_ (Or.inl rfl) ?_ <;> simp [go_sem, ↓iO, iO, tN]
  repeat (refine anI ?_)
  try (refine ⟨dcK, ?_⟩)
  repeat (first | (refine nf1_sound rfl ?_; simp [go_sem, ↓iO, iO, tN]; (repeat (refine anI ?_)); try (refine ⟨dcK, ?_⟩)) | ((first | refine itePos (by omega) ?_ | refine iteNeg (by omega) ?_); try simp [go_sem, ↓iO, iO, tN]) | (refine ⟨dcK, ?_⟩))
  refine CallK.fn (c5) [(0, 0)] [] [] (by kernel_rfl) ?_ ?_ ?_ (Or.inl rfl) ?_ <;> simp [go_sem, ↓iO, iO, tN]
  repeat (refine anI ?_)
  try (refine ⟨dcK, ?_⟩)
  repeat (first | (refine nf1_sound rfl ?_; simp [go_sem, ↓iO, iO, tN]; (repeat (refine anI ?_)); try (refine ⟨dcK, ?_⟩)) | ((first | refine itePos (by omega) ?_ | refine iteNeg (by omega) ?_); try simp [go_sem, ↓iO, iO, tN]) | (refine ⟨dcK, ?_⟩))
  refine nf1_sound' _ _ _ ?_; simp only [nf1]
  refine CW.loop (ι := Nat) (fun j => ⟨[(0, .pt 0 [] 0), (4, .pt 504 [] 0), (5, .pt 505 [] 0), (6, .t (.int (n - j)))], [(0, srcB l (K j)), (504, .box 38 (.t (.agg [.int 0, .int 0, .int 0, .int 0, .int 0, .nil]))), (505, .box 38 (tgS ⟨st, ep, sq, tm, kd, V j⟩ 500)), (500, blkI (V j))]⟩) (fun j => (j : Int) ≤ n) (fun j => n.toNat - j) 0 [(0, some 0), (504, some 104), (505, some 105), (500, none)] (by omega) ?_ ?_
  · simp [go_sem, ↓iO, iO, tN, V0, K0, wkXs]
  intro j hjn
  obtain ⟨e1, e2, e3, e4, e5, ce⟩ := hj j
  by_cases hb : (j : Int) < n
  · repeat (first | (refine nf1_sound rfl ?_; simp [go_sem, ↓iO, iO, tN]; (repeat (refine anI ?_)); try (refine ⟨dcK, ?_⟩)) | ((first | refine itePos (by omega) ?_ | refine iteNeg (by omega) ?_); try simp [go_sem, ↓iO, iO, tN]) | (refine ⟨dcK, ?_⟩))
    refine CallK.fn (ce) [(0, 0)] [] [127] (by kernel_rfl) ?_ ?_ ?_ (Or.inl rfl) ?_ <;> simp [go_sem, ↓iO, iO, tN]
    repeat (refine anI ?_)
    try (refine ⟨dcK, ?_⟩)
    repeat (first | (refine nf1_sound rfl ?_; simp [go_sem, ↓iO, iO, tN]; (repeat (refine anI ?_)); try (refine ⟨dcK, ?_⟩)) | ((first | refine itePos (by omega) ?_ | refine iteNeg (by omega) ?_); try simp [go_sem, ↓iO, iO, tN]) | (refine ⟨dcK, ?_⟩))
    rw [RoundQ_normal]; refine ⟨j + 1, [(0, some 0), (504, some 504), (505, some 505), (500, some 130)], ?_, ?_, ?_⟩
    · omega
    · omega
    simp [go_sem, ↓iO, iO, tN, e2]
    omega
  · have hjn2 : n.toNat = j := by omega
    repeat (first | (refine nf1_sound rfl ?_; simp [go_sem, ↓iO, iO, tN]; (repeat (refine anI ?_)); try (refine ⟨dcK, ?_⟩)) | ((first | refine itePos (by omega) ?_ | refine iteNeg (by omega) ?_); try simp [go_sem, ↓iO, iO, tN]) | (refine ⟨dcK, ?_⟩))
    first | rw [RetQ_ret] | rw [RetQ_normal]
    refine ⟨[(0, some 0), (1000, some 500)], ?_⟩
    simp [go_sem, ↓iO, iO, tN, hjn2]
end Go.Proofs.Ytopmmodcaoaaeaa
