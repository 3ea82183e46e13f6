/- Several texts of this proof, one behind the other. No condition. -/
import Derived.Test.YtdjmklobfjigoaaGreatDoorTTopsB13
import Derived.Test.YtdjmklobfjigoaaGreatDoorTTopsB12
set_option maxRecDepth 100000
set_option maxHeartbeats 16000000
set_option linter.unusedVariables false
set_option linter.unusedSimpArgs false
namespace Go.Proofs.YtdjmklobfjigoaaGreatDoor
open Go.RowKit Sy
open Go.IntWalk renaming iteOmega → iO, toNatUp → tN
theorem seg_idx (l : List (Sgm)) (hlen : l.length ≤ 1000000) (hall : ∀ p ∈ l, FnOk Tryz.prog 87 [.t (encSg p)] [] (.t (.bool false)) []) : FnOk Tryz.prog 120 [.t (.sl 7 (l.map encSg)), .fn 87 []] [] (.t (.int (-1))) [] := by
  refine FnOk.intro fact_mixed Tryz.func120 rfl Tryz.ntmps120 (by rfl) (by simp) ?_
  repeat (first | (refine nf1_sound rfl ?_; simp [go_sem, ↓iO, iO, tN]) | refine anI ?_ | refine ⟨dcK, ?_⟩ | ((first | refine iP ?_ | refine iN ?_); try simp [go_sem, ↓iO, iO, tN]))
  refine nf1_sound' _ _ _ ?_; simp only [nf1]
  refine CW.loop (ι := Nat) (fun k => ⟨[(0, .t (.sl 7 (l.map encSg))), (1, .fn 87 []), (7, .t (.int l.length)), (8, .t (.int k))], []⟩) (fun k => k ≤ l.length) (fun k => l.length - k) 0 [] (by omega) ?_ ?_
  · simp [go_sem, ↓iO, iO, tN]
  intro k hk
  by_cases hb : k < l.length
  · obtain ⟨p, hp⟩ := has_get hb
    have hu := hall p (mem_get hp)
    repeat (first | (refine nf1_sound rfl ?_; simp [go_sem, ↓iO, iO, tN, hp]) | refine anI ?_ | refine ⟨dcK, ?_⟩ | ((first | refine iP ?_ | refine iN ?_); try simp [go_sem, ↓iO, iO, tN, hp]))
    refine CallK.fn (hu) [] [] [] (by kernel_rfl) ?_ ?_ ?_ (Or.inl rfl) ?_ <;> simp [go_sem, ↓iO, iO, tN]
    repeat (refine anI ?_)
    try (refine ⟨dcK, ?_⟩)
    repeat (first | (refine nf1_sound rfl ?_; simp [go_sem, ↓iO, iO, tN]) | refine anI ?_ | refine ⟨dcK, ?_⟩ | ((first | refine iP ?_ | refine iN ?_); try simp [go_sem, ↓iO, iO, tN]))
    rw [RoundQ_normal]; refine ⟨k + 1, [], ?_, ?_, ?_⟩
    · omega
    · omega
    simp [go_sem, ↓iO, iO, tN]
  · obtain rfl : k = l.length := by omega
    repeat (first | (refine nf1_sound rfl ?_; simp [go_sem, ↓iO, iO, tN]) | refine anI ?_ | refine ⟨dcK, ?_⟩ | ((first | refine iP ?_ | refine iN ?_); try simp [go_sem, ↓iO, iO, tN]))
    first | rw [RetQ_ret] | rw [RetQ_normal]
    refine ⟨[], ?_⟩
    simp [go_sem, ↓iO, iO, tN]
theorem seg_cont (l : List (Sgm)) (hlen : l.length ≤ 1000000) (hall : ∀ p ∈ l, FnOk Tryz.prog 87 [.t (encSg p)] [] (.t (.bool false)) []) : FnOk Tryz.prog 79 [.t (.sl 7 (l.map encSg)), .fn 87 []] [] (.t (.bool false)) [] := by
  refine FnOk.intro fact_mixed Tryz.func79 rfl Tryz.ntmps79 (by rfl) (by simp) ?_
  repeat (first | (refine nf1_sound rfl ?_; simp [go_sem, ↓iO, iO, tN]) | refine anI ?_ | refine ⟨dcK, ?_⟩ | ((first | refine iP ?_ | refine iN ?_); try simp [go_sem, ↓iO, iO, tN]))
  refine CallK.fn (seg_idx l hlen hall) [] [] [] (by kernel_rfl) ?_ ?_ ?_ (Or.inl rfl) ?_ <;> simp [go_sem, ↓iO, iO, tN]
  repeat (refine anI ?_)
  try (refine ⟨dcK, ?_⟩)
  repeat (first | (refine nf1_sound rfl ?_; simp [go_sem, ↓iO, iO, tN]) | refine anI ?_ | refine ⟨dcK, ?_⟩ | ((first | refine iP ?_ | refine iN ?_); try simp [go_sem, ↓iO, iO, tN]))
  first | rw [RetQ_ret] | rw [RetQ_normal]
  refine ⟨[], ?_⟩
  simp [go_sem, ↓iO, iO, tN]
theorem fci_idx (l : List (Int)) (hlen : l.length ≤ 1000000) (hall : ∀ p ∈ l, FnOk Tryz.prog 95 [.t (encI p)] [] (.t (.bool false)) []) : FnOk Tryz.prog 66 [.t (.sl 1 (l.map encI)), .fn 95 []] [] (.t (.int (-1))) [] := by
  refine FnOk.intro fact_mixed Tryz.func66 rfl Tryz.ntmps66 (by rfl) (by simp) ?_
  repeat (first | (refine nf1_sound rfl ?_; simp [go_sem, ↓iO, iO, tN]) | refine anI ?_ | refine ⟨dcK, ?_⟩ | ((first | refine iP ?_ | refine iN ?_); try simp [go_sem, ↓iO, iO, tN]))
  refine nf1_sound' _ _ _ ?_; simp only [nf1]
  refine CW.loop (ι := Nat) (fun k => ⟨[(0, .t (.sl 1 (l.map encI))), (1, .fn 95 []), (7, .t (.int l.length)), (8, .t (.int k))], []⟩) (fun k => k ≤ l.length) (fun k => l.length - k) 0 [] (by omega) ?_ ?_
  · simp [go_sem, ↓iO, iO, tN]
  intro k hk
  by_cases hb : k < l.length
  · obtain ⟨p, hp⟩ := has_get hb
    have hu := hall p (mem_get hp)
    repeat (first | (refine nf1_sound rfl ?_; simp [go_sem, ↓iO, iO, tN, hp]) | refine anI ?_ | refine ⟨dcK, ?_⟩ | ((first | refine iP ?_ | refine iN ?_); try simp [go_sem, ↓iO, iO, tN, hp]))
    refine CallK.fn (hu) [] [] [] (by kernel_rfl) ?_ ?_ ?_ (Or.inl rfl) ?_ <;> simp [go_sem, ↓iO, iO, tN]
    repeat (refine anI ?_)
    try (refine ⟨dcK, ?_⟩)
    repeat (first | (refine nf1_sound rfl ?_; simp [go_sem, ↓iO, iO, tN]) | refine anI ?_ | refine ⟨dcK, ?_⟩ | ((first | refine iP ?_ | refine iN ?_); try simp [go_sem, ↓iO, iO, tN]))
    rw [RoundQ_normal]; refine ⟨k + 1, [], ?_, ?_, ?_⟩
    · omega
    · omega
    simp [go_sem, ↓iO, iO, tN]
  · obtain rfl : k = l.length := by omega
    repeat (first | (refine nf1_sound rfl ?_; simp [go_sem, ↓iO, iO, tN]) | refine anI ?_ | refine ⟨dcK, ?_⟩ | ((first | refine iP ?_ | refine iN ?_); try simp [go_sem, ↓iO, iO, tN]))
    first | rw [RetQ_ret] | rw [RetQ_normal]
    refine ⟨[], ?_⟩
    simp [go_sem, ↓iO, iO, tN]
theorem fci_cont (l : List (Int)) (hlen : l.length ≤ 1000000) (hall : ∀ p ∈ l, FnOk Tryz.prog 95 [.t (encI p)] [] (.t (.bool false)) []) : FnOk Tryz.prog 49 [.t (.sl 1 (l.map encI)), .fn 95 []] [] (.t (.bool false)) [] := by
  refine FnOk.intro fact_mixed Tryz.func49 rfl Tryz.ntmps49 (by rfl) (by simp) ?_
  repeat (first | (refine nf1_sound rfl ?_; simp [go_sem, ↓iO, iO, tN]) | refine anI ?_ | refine ⟨dcK, ?_⟩ | ((first | refine iP ?_ | refine iN ?_); try simp [go_sem, ↓iO, iO, tN]))
  refine CallK.fn (fci_idx l hlen hall) [] [] [] (by kernel_rfl) ?_ ?_ ?_ (Or.inl rfl) ?_ <;> simp [go_sem, ↓iO, iO, tN]
  repeat (refine anI ?_)
  try (refine ⟨dcK, ?_⟩)
  repeat (first | (refine nf1_sound rfl ?_; simp [go_sem, ↓iO, iO, tN]) | refine anI ?_ | refine ⟨dcK, ?_⟩ | ((first | refine iP ?_ | refine iN ?_); try simp [go_sem, ↓iO, iO, tN]))
  first | rw [RetQ_ret] | rw [RetQ_normal]
  refine ⟨[], ?_⟩
  simp [go_sem, ↓iO, iO, tN]
theorem sti_idx (l : List (Int)) (hlen : l.length ≤ 1000000) (hall : ∀ p ∈ l, FnOk Tryz.prog 50 [.t (encI p)] [] (.t (.bool false)) []) : FnOk Tryz.prog 66 [.t (.sl 1 (l.map encI)), .fn 50 []] [] (.t (.int (-1))) [] := by
  refine FnOk.intro fact_mixed Tryz.func66 rfl Tryz.ntmps66 (by rfl) (by simp) ?_
  repeat (first | (refine nf1_sound rfl ?_; simp [go_sem, ↓iO, iO, tN]) | refine anI ?_ | refine ⟨dcK, ?_⟩ | ((first | refine iP ?_ | refine iN ?_); try simp [go_sem, ↓iO, iO, tN]))
  refine nf1_sound' _ _ _ ?_; simp only [nf1]
  refine CW.loop (ι := Nat) (fun k => ⟨[(0, .t (.sl 1 (l.map encI))), (1, .fn 50 []), (7, .t (.int l.length)), (8, .t (.int k))], []⟩) (fun k => k ≤ l.length) (fun k => l.length - k) 0 [] (by omega) ?_ ?_
  · simp [go_sem, ↓iO, iO, tN]
  intro k hk
  by_cases hb : k < l.length
  · obtain ⟨p, hp⟩ := has_get hb
    have hu := hall p (mem_get hp)
    repeat (first | (refine nf1_sound rfl ?_; simp [go_sem, ↓iO, iO, tN, hp]) | refine anI ?_ | refine ⟨dcK, ?_⟩ | ((first | refine iP ?_ | refine iN ?_); try simp [go_sem, ↓iO, iO, tN, hp]))
    refine CallK.fn (hu) [] [] [] (by kernel_rfl) ?_ ?_ ?_ (Or.inl rfl) ?_ <;> simp [go_sem, ↓iO, iO, tN]
    repeat (refine anI ?_)
    try (refine ⟨dcK, ?_⟩)
    repeat (first | (refine nf1_sound rfl ?_; simp [go_sem, ↓iO, iO, tN]) | refine anI ?_ | refine ⟨dcK, ?_⟩ | ((first | refine iP ?_ | refine iN ?_); try simp [go_sem, ↓iO, iO, tN]))
    rw [RoundQ_normal]; refine ⟨k + 1, [], ?_, ?_, ?_⟩
    · omega
    · omega
    simp [go_sem, ↓iO, iO, tN]
  · obtain rfl : k = l.length := by omega
    repeat (first | (refine nf1_sound rfl ?_; simp [go_sem, ↓iO, iO, tN]) | refine anI ?_ | refine ⟨dcK, ?_⟩ | ((first | refine iP ?_ | refine iN ?_); try simp [go_sem, ↓iO, iO, tN]))
    first | rw [RetQ_ret] | rw [RetQ_normal]
    refine ⟨[], ?_⟩
    simp [go_sem, ↓iO, iO, tN]
theorem sti_cont (l : List (Int)) (hlen : l.length ≤ 1000000) (hall : ∀ p ∈ l, FnOk Tryz.prog 50 [.t (encI p)] [] (.t (.bool false)) []) : FnOk Tryz.prog 49 [.t (.sl 1 (l.map encI)), .fn 50 []] [] (.t (.bool false)) [] := by
  refine FnOk.intro fact_mixed Tryz.func49 rfl Tryz.ntmps49 (by rfl) (by simp) ?_
  repeat (first | (refine nf1_sound rfl ?_; simp [go_sem, ↓iO, iO, tN]) | refine anI ?_ | refine ⟨dcK, ?_⟩ | ((first | refine iP ?_ | refine iN ?_); try simp [go_sem, ↓iO, iO, tN]))
  refine CallK.fn (sti_idx l hlen hall) [] [] [] (by kernel_rfl) ?_ ?_ ?_ (Or.inl rfl) ?_ <;> simp [go_sem, ↓iO, iO, tN]
  repeat (refine anI ?_)
  try (refine ⟨dcK, ?_⟩)
  repeat (first | (refine nf1_sound rfl ?_; simp [go_sem, ↓iO, iO, tN]) | refine anI ?_ | refine ⟨dcK, ?_⟩ | ((first | refine iP ?_ | refine iN ?_); try simp [go_sem, ↓iO, iO, tN]))
  first | rw [RetQ_ret] | rw [RetQ_normal]
  refine ⟨[], ?_⟩
  simp [go_sem, ↓iO, iO, tN]
theorem acr_idx (l : List (List (Int × Int))) (hlen : l.length ≤ 1000000) (hall : ∀ p ∈ l, FnOk Tryz.prog 47 [.t (encPs p)] [] (.t (.bool false)) []) : FnOk Tryz.prog 63 [.t (.sl 1 (l.map encPs)), .fn 47 []] [] (.t (.int (-1))) [] := by
  refine FnOk.intro fact_mixed Tryz.func63 rfl Tryz.ntmps63 (by rfl) (by simp) ?_
  repeat (first | (refine nf1_sound rfl ?_; simp [go_sem, ↓iO, iO, tN]) | refine anI ?_ | refine ⟨dcK, ?_⟩ | ((first | refine iP ?_ | refine iN ?_); try simp [go_sem, ↓iO, iO, tN]))
  refine nf1_sound' _ _ _ ?_; simp only [nf1]
  refine CW.loop (ι := Nat) (fun k => ⟨[(0, .t (.sl 1 (l.map encPs))), (1, .fn 47 []), (7, .t (.int l.length)), (8, .t (.int k))], []⟩) (fun k => k ≤ l.length) (fun k => l.length - k) 0 [] (by omega) ?_ ?_
  · simp [go_sem, ↓iO, iO, tN]
  intro k hk
  by_cases hb : k < l.length
  · obtain ⟨p, hp⟩ := has_get hb
    have hu := hall p (mem_get hp)
    repeat (first | (refine nf1_sound rfl ?_; simp [go_sem, ↓iO, iO, tN, hp]) | refine anI ?_ | refine ⟨dcK, ?_⟩ | ((first | refine iP ?_ | refine iN ?_); try simp [go_sem, ↓iO, iO, tN, hp]))
    refine CallK.fn (hu) [] [] [] (by kernel_rfl) ?_ ?_ ?_ (Or.inl rfl) ?_ <;> simp [go_sem, ↓iO, iO, tN]
    repeat (refine anI ?_)
    try (refine ⟨dcK, ?_⟩)
    repeat (first | (refine nf1_sound rfl ?_; simp [go_sem, ↓iO, iO, tN]) | refine anI ?_ | refine ⟨dcK, ?_⟩ | ((first | refine iP ?_ | refine iN ?_); try simp [go_sem, ↓iO, iO, tN]))
    rw [RoundQ_normal]; refine ⟨k + 1, [], ?_, ?_, ?_⟩
    · omega
    · omega
    simp [go_sem, ↓iO, iO, tN]
  · obtain rfl : k = l.length := by omega
    repeat (first | (refine nf1_sound rfl ?_; simp [go_sem, ↓iO, iO, tN]) | refine anI ?_ | refine ⟨dcK, ?_⟩ | ((first | refine iP ?_ | refine iN ?_); try simp [go_sem, ↓iO, iO, tN]))
    first | rw [RetQ_ret] | rw [RetQ_normal]
    refine ⟨[], ?_⟩
    simp [go_sem, ↓iO, iO, tN]
theorem acr_cont (l : List (List (Int × Int))) (hlen : l.length ≤ 1000000) (hall : ∀ p ∈ l, FnOk Tryz.prog 47 [.t (encPs p)] [] (.t (.bool false)) []) : FnOk Tryz.prog 46 [.t (.sl 1 (l.map encPs)), .fn 47 []] [] (.t (.bool false)) [] := by
  refine FnOk.intro fact_mixed Tryz.func46 rfl Tryz.ntmps46 (by rfl) (by simp) ?_
  repeat (first | (refine nf1_sound rfl ?_; simp [go_sem, ↓iO, iO, tN]) | refine anI ?_ | refine ⟨dcK, ?_⟩ | ((first | refine iP ?_ | refine iN ?_); try simp [go_sem, ↓iO, iO, tN]))
  refine CallK.fn (acr_idx l hlen hall) [] [] [] (by kernel_rfl) ?_ ?_ ?_ (Or.inl rfl) ?_ <;> simp [go_sem, ↓iO, iO, tN]
  repeat (refine anI ?_)
  try (refine ⟨dcK, ?_⟩)
  repeat (first | (refine nf1_sound rfl ?_; simp [go_sem, ↓iO, iO, tN]) | refine anI ?_ | refine ⟨dcK, ?_⟩ | ((first | refine iP ?_ | refine iN ?_); try simp [go_sem, ↓iO, iO, tN]))
  first | rw [RetQ_ret] | rw [RetQ_normal]
  refine ⟨[], ?_⟩
  simp [go_sem, ↓iO, iO, tN]
theorem nprop1_fn (s : Sgm) (h : PipeOk s) : FnOk Tryz.prog 87 [.t (encSg s)] [] (.t (.bool false)) [] := by
  have c := pipe_fn s h
  refine FnOk.intro fact_mixed Tryz.func87 rfl Tryz.ntmps87 (by rfl) (by simp) ?_
  repeat (first | (refine nf1_sound rfl ?_; simp [go_sem, ↓iO, iO, tN]) | refine anI ?_ | refine ⟨dcK, ?_⟩ | ((first | refine iP ?_ | refine iN ?_); try simp [go_sem, ↓iO, iO, tN]))
  refine CallK.fn (c) [] [] [] (by kernel_rfl) ?_ ?_ ?_ (Or.inl rfl) ?_ <;> simp [go_sem, ↓iO, iO, tN]
  repeat (refine anI ?_)
  try (refine ⟨dcK, ?_⟩)
  repeat (first | (refine nf1_sound rfl ?_; simp [go_sem, ↓iO, iO, tN]) | refine anI ?_ | refine ⟨dcK, ?_⟩ | ((first | refine iP ?_ | refine iN ?_); try simp [go_sem, ↓iO, iO, tN]))
  first | rw [RetQ_ret] | rw [RetQ_normal]
  refine ⟨[], ?_⟩
  simp [go_sem, ↓iO, iO, tN]
theorem within_fn (n m : Int) (hm : -1000000 ≤ m ∧ m ≤ 1000000) (h : -m ≤ n ∧ n ≤ m) : FnOk Tryz.prog 94 [.t (.int n), .t (.int m)] [] (.t (.bool true)) [] := by
  obtain ⟨h1, h2⟩ := h
  refine FnOk.intro fact_mixed Tryz.func94 rfl Tryz.ntmps94 (by rfl) (by simp) ?_
  repeat (first | (refine nf1_sound rfl ?_; simp [go_sem, ↓iO, iO, tN, h1, h2]) | refine anI ?_ | refine ⟨dcK, ?_⟩ | ((first | refine iP ?_ | refine iN ?_); try simp [go_sem, ↓iO, iO, tN, h1, h2]))
  first | rw [RetQ_ret] | rw [RetQ_normal]
  refine ⟨[], ?_⟩
  simp [go_sem, ↓iO, iO, tN, h1, h2]
theorem fcheck1_fn (n : Int) (h : -1000 ≤ n ∧ n ≤ 1000) : FnOk Tryz.prog 95 [.t (.int n)] [] (.t (.bool false)) [] := by
  have c := within_fn n 1000 (by omega) h
  refine FnOk.intro fact_mixed Tryz.func95 rfl Tryz.ntmps95 (by rfl) (by simp) ?_
  repeat (first | (refine nf1_sound rfl ?_; simp [go_sem, ↓iO, iO, tN]) | refine anI ?_ | refine ⟨dcK, ?_⟩ | ((first | refine iP ?_ | refine iN ?_); try simp [go_sem, ↓iO, iO, tN]))
  refine CallK.fn (c) [] [] [] (by kernel_rfl) ?_ ?_ ?_ (Or.inl rfl) ?_ <;> simp [go_sem, ↓iO, iO, tN]
  repeat (refine anI ?_)
  try (refine ⟨dcK, ?_⟩)
  repeat (first | (refine nf1_sound rfl ?_; simp [go_sem, ↓iO, iO, tN]) | refine anI ?_ | refine ⟨dcK, ?_⟩ | ((first | refine iP ?_ | refine iN ?_); try simp [go_sem, ↓iO, iO, tN]))
  first | rw [RetQ_ret] | rw [RetQ_normal]
  refine ⟨[], ?_⟩
  simp [go_sem, ↓iO, iO, tN]
theorem am_f : fldsB Tryz.prog 149 = none := by kernel_rfl
theorem am_a : arrB Tryz.prog 149 = some (24, 3) := by kernel_rfl
theorem am_g : Tryz.prog.eqGuardType Tryz.prog.depth 149 = false := by kernel_rfl
theorem am_c : cellB Tryz.prog 3 = true := by kernel_rfl
theorem am_i : (intB Tryz.prog 3).isSome = true := by kernel_rfl
theorem eq_ints : ∀ l : List Int, eqAs Tryz.prog 3 (l.map T.int) (l.map T.int) = some true
  | [] => rfl
  | x :: r => by simp [eqAs, eqV, eq_ints r, am_i]
theorem volume_fn (l : List (Int × Int)) (h : Pc.Vd l) : FnOk Tryz.prog 10 [.t (encPs l)] [] (.t (.int (Pc.vol l))) [] := by
  have hlen := h.len
  refine FnOk.intro fact_mixed Tryz.func10 rfl Tryz.ntmps10 (by rfl) (by simp) ?_
  repeat (first | (refine nf1_sound rfl ?_; simp [go_sem, ↓iO, iO, tN]) | refine anI ?_ | refine ⟨dcK, ?_⟩ | ((first | refine iP ?_ | refine iN ?_); try simp [go_sem, ↓iO, iO, tN]))
  refine CallK.fn (valid_fn' l (by omega) true (Pc.valid_t h)) [] [] [] (by kernel_rfl) ?_ ?_ ?_ (Or.inl rfl) ?_ <;> simp [go_sem, ↓iO, iO, tN]
  repeat (refine anI ?_)
  try (refine ⟨dcK, ?_⟩)
  repeat (first | (refine nf1_sound rfl ?_; simp [go_sem, ↓iO, iO, tN]) | refine anI ?_ | refine ⟨dcK, ?_⟩ | ((first | refine iP ?_ | refine iN ?_); try simp [go_sem, ↓iO, iO, tN]))
  refine CallK.fn (total_fn l h.sane) [] [] [] (by kernel_rfl) ?_ ?_ ?_ (Or.inl rfl) ?_ <;> simp [go_sem, ↓iO, iO, tN]
  repeat (refine anI ?_)
  try (refine ⟨dcK, ?_⟩)
  repeat (first | (refine nf1_sound rfl ?_; simp [go_sem, ↓iO, iO, tN]) | refine anI ?_ | refine ⟨dcK, ?_⟩ | ((first | refine iP ?_ | refine iN ?_); try simp [go_sem, ↓iO, iO, tN]))
  first | rw [RetQ_ret] | rw [RetQ_normal]
  refine ⟨[], ?_⟩
  simp [go_sem, ↓iO, iO, tN]
theorem acheck1_fn (f : List (Int × Int)) (h : Pc.Vd f) : FnOk Tryz.prog 47 [.t (encPs f)] [] (.t (.bool false)) [] := by
  have hlen := h.len
  have c := valid_fn' f (by omega) true (Pc.valid_t h)
  refine FnOk.intro fact_mixed Tryz.func47 rfl Tryz.ntmps47 (by rfl) (by simp) ?_
  repeat (first | (refine nf1_sound rfl ?_; simp [go_sem, ↓iO, iO, tN]) | refine anI ?_ | refine ⟨dcK, ?_⟩ | ((first | refine iP ?_ | refine iN ?_); try simp [go_sem, ↓iO, iO, tN]))
  refine CallK.fn (c) [] [] [] (by kernel_rfl) ?_ ?_ ?_ (Or.inl rfl) ?_ <;> simp [go_sem, ↓iO, iO, tN]
  repeat (refine anI ?_)
  try (refine ⟨dcK, ?_⟩)
  repeat (first | (refine nf1_sound rfl ?_; simp [go_sem, ↓iO, iO, tN]) | refine anI ?_ | refine ⟨dcK, ?_⟩ | ((first | refine iP ?_ | refine iN ?_); try simp [go_sem, ↓iO, iO, tN]))
  first | rw [RetQ_ret] | rw [RetQ_normal]
  refine ⟨[], ?_⟩
  simp [go_sem, ↓iO, iO, tN]
theorem start1_fn (b : Int) (h : 0 ≤ b ∧ b < 1000) : FnOk Tryz.prog 50 [.t (.int b)] [] (.t (.bool false)) [] := by
  obtain ⟨h1, h2⟩ := h
  refine FnOk.intro fact_mixed Tryz.func50 rfl Tryz.ntmps50 (by rfl) (by simp) ?_
  repeat (first | (refine nf1_sound rfl ?_; simp [go_sem, ↓iO, iO, tN, h1, h2]) | refine anI ?_ | refine ⟨dcK, ?_⟩ | ((first | refine iP ?_ | refine iN ?_); try simp [go_sem, ↓iO, iO, tN, h1, h2]))
  first | rw [RetQ_ret] | rw [RetQ_normal]
  refine ⟨[], ?_⟩
  simp [go_sem, ↓iO, iO, tN, h1, h2]
def NetC (d : LineD) : Prop := FnOk Tryz.prog 45 [.t (.agg d.net)] [] (.t (.int 0)) []
structure FillsOk (d : LineD) (fills : List (List (Int × Int))) : Prop where
  len : fills.length = d.segs.length
  vd : ∀ f ∈ fills, Pc.Vd f
  cap : ∀ (i : Nat) f s, fills[i]? = some f → d.segs[i]? = some s → Pc.vol f = s.1.cp
theorem acheck_fn (d : LineD) (hd : LineOk d) (hn : NetC d) (fills : List (List (Int × Int))) (hf : FillsOk d fills) : FnOk Tryz.prog 24 [.t (.agg d.net), .t (.sl 1 (fills.map encPs))] [] (.t (.int 0)) [] := by
  have w1 := hd.w1
  have w2 := hd.w2
  have w3 := hd.w3
  have w4 := hd.w4
  have hmS := hd.maxS
  obtain ⟨f1, f2, f3⟩ := hf
  have c2 := acr_cont fills (by omega) (fun p hp => acheck1_fn p (f2 p hp))
  unfold NetC at hn
  refine FnOk.intro fact_mixed Tryz.func24 rfl Tryz.ntmps24 (by rfl) (by simp) ?_
  repeat (first | (refine nf1_sound rfl ?_; simp [go_sem, ↓iO, iO, tN, w1, w2, w3, w4]) | refine anI ?_ | refine ⟨dcK, ?_⟩ | ((first | refine iP ?_ | refine iN ?_); try simp [go_sem, ↓iO, iO, tN, w1, w2, w3, w4]))
  refine CallK.fn (hn) [] [] [] (by kernel_rfl) ?_ ?_ ?_ (Or.inl rfl) ?_ <;> simp [go_sem, ↓iO, iO, tN, w1, w2, w3, w4]
  repeat (refine anI ?_)
  try (refine ⟨dcK, ?_⟩)
  repeat (first | (refine nf1_sound rfl ?_; simp [go_sem, ↓iO, iO, tN, w1, w2, w3, w4, f1]) | refine anI ?_ | refine ⟨dcK, ?_⟩ | ((first | refine iP ?_ | refine iN ?_); try simp [go_sem, ↓iO, iO, tN, w1, w2, w3, w4, f1]))
  refine CallK.fn (c2) [] [] [] (by kernel_rfl) ?_ ?_ ?_ (Or.inl rfl) ?_ <;> simp [go_sem, ↓iO, iO, tN, w1, w2, w3, w4, f1]
  repeat (refine anI ?_)
  try (refine ⟨dcK, ?_⟩)
  repeat (first | (refine nf1_sound rfl ?_; simp [go_sem, ↓iO, iO, tN, w1, w2, w3, w4, f1]) | refine anI ?_ | refine ⟨dcK, ?_⟩ | ((first | refine iP ?_ | refine iN ?_); try simp [go_sem, ↓iO, iO, tN, w1, w2, w3, w4, f1]))
  refine nf1_sound' _ _ _ ?_; simp only [nf1]
  refine CW.loop (ι := Nat) (fun k => ⟨[(2, .pt 102 [] 0), (23, .t (.sl 1 (fills.map encPs))), (24, .t (.int fills.length)), (25, .t (.int k))], [(102, .box 33 (.t (.agg d.net)))]⟩) (fun k => k ≤ fills.length) (fun k => fills.length - k) 0 [(102, some 102)] (by omega) ?_ ?_
  · simp [go_sem, ↓iO, iO, tN, f1]
  intro k hk
  by_cases hb : k < fills.length
  · obtain ⟨f, hp⟩ := has_get hb
    obtain ⟨s, hs⟩ : ∃ s, d.segs[k]? = some s := has_get (by omega)
    have hv := f3 k f s hp hs
    have cv := volume_fn f (f2 f (mem_get hp))
    rw [hv] at cv
    obtain ⟨⟨nm, fr, to, cp, rs, wv⟩, pts⟩ := s
    dsimp only at cv
    have hp2 : fills[k] = f := (List.getElem?_eq_some_iff.1 hp).2
    have hs2 : d.segs[k] = (⟨nm, fr, to, cp, rs, wv⟩, pts) := (List.getElem?_eq_some_iff.1 hs).2
    have hb2 : k < d.segs.length := by omega
    repeat (first | (refine nf1_sound rfl ?_; simp [go_sem, ↓iO, iO, tN, hp, hp2, hs, hs2, hb, hb2, w1, w2, w3, w4]) | refine anI ?_ | refine ⟨dcK, ?_⟩ | ((first | refine iP ?_ | refine iN ?_); try simp [go_sem, ↓iO, iO, tN, hp, hp2, hs, hs2, hb, hb2, w1, w2, w3, w4]))
    refine CallK.fn (cv) [] [] [] (by kernel_rfl) ?_ ?_ ?_ (Or.inl rfl) ?_ <;> simp [go_sem, ↓iO, iO, tN, hp, hp2, hs, hs2, hb, hb2, w1, w2, w3, w4]
    repeat (refine anI ?_)
    try (refine ⟨dcK, ?_⟩)
    repeat (first | (refine nf1_sound rfl ?_; simp [go_sem, ↓iO, iO, tN, hp, hp2, hs, hs2, hb, hb2, w1, w2, w3, w4]) | refine anI ?_ | refine ⟨dcK, ?_⟩ | ((first | refine iP ?_ | refine iN ?_); try simp [go_sem, ↓iO, iO, tN, hp, hp2, hs, hs2, hb, hb2, w1, w2, w3, w4]))
    rw [RoundQ_normal]; refine ⟨k + 1, [(102, some 102)], ?_, ?_, ?_⟩
    · omega
    · omega
    simp [go_sem, ↓iO, iO, tN]
  · obtain rfl : k = fills.length := by omega
    repeat (first | (refine nf1_sound rfl ?_; simp [go_sem, ↓iO, iO, tN]) | refine anI ?_ | refine ⟨dcK, ?_⟩ | ((first | refine iP ?_ | refine iN ?_); try simp [go_sem, ↓iO, iO, tN]))
    first | rw [RetQ_ret] | rw [RetQ_normal]
    refine ⟨[], ?_⟩
    simp [go_sem, ↓iO, iO, tN]
theorem map_some (l : List (List (Int × Int))) : (l.map some).map encGv = l.map encPs := by rw [List.map_map]; rfl
theorem astart_fn (d : LineD) (hd : LineOk d) (hn : NetC d) (fills : List (List (Int × Int))) (hf : FillsOk d fills) (ord : List Int) (ho : FnOk Tryz.prog 48 [.t (.agg d.net), .t (.agg d.plan)] [] (.tup [.t (.sl 1 (ord.map encI)), .t (.int 0)]) [])
    (hfd : ∀ b ∈ d.feeds, 0 ≤ b ∧ b < 1000) :
    FnOk Tryz.prog 25 [.t (.agg d.net), .t (.sl 1 (fills.map encPs)), .t (.agg d.plan), .t (.sl 1 (d.feeds.map encI))] []
      (.tup [.pt 1000 [] 0, .t (.int 0)]) [(1000, .box 76 (.ag [.t (.agg d.net), .t (.agg d.plan), .t (.sl 1 (d.feeds.map encI)), .t (.sl 1 (ord.map encI)), .own 1001, .t (.lit (.slice none 0 0)), .t (.lit (.slice none 0 0))])), (1001, blkG (fills.map some))] := by
  have w1 := hd.w1
  have w2 := hd.w2
  have w3 := hd.w3
  have w4 := hd.w4
  have w5 := hd.w5
  have hmS := hd.maxS
  have hmP := hd.maxP
  have hlF := hd.lenF
  have f1 := hf.len
  have c1 := acheck_fn d hd hn fills hf
  have c2 := sti_cont d.feeds (by omega) (fun p hp => start1_fn p (hfd p hp))
  refine FnOk.intro fact_mixed Tryz.func25 rfl Tryz.ntmps25 (by rfl) (by simp) ?_
  repeat (first | (refine nf1_sound rfl ?_; simp [go_sem, ↓iO, iO, tN, w1, w2, w3, w4, w5]) | refine anI ?_ | refine ⟨dcK, ?_⟩ | ((first | refine iP ?_ | refine iN ?_); try simp [go_sem, ↓iO, iO, tN, w1, w2, w3, w4, w5]))
  refine CallK.fn (c1) [] [] [] (by kernel_rfl) ?_ ?_ ?_ (Or.inl rfl) ?_ <;> simp [go_sem, ↓iO, iO, tN, w1, w2, w3, w4, w5]
  repeat (refine anI ?_)
  try (refine ⟨dcK, ?_⟩)
  repeat (first | (refine nf1_sound rfl ?_; simp [go_sem, ↓iO, iO, tN, w1, w2, w3, w4, w5]) | refine anI ?_ | refine ⟨dcK, ?_⟩ | ((first | refine iP ?_ | refine iN ?_); try simp [go_sem, ↓iO, iO, tN, w1, w2, w3, w4, w5]))
  refine CallK.fn (ho) [] [] [] (by kernel_rfl) ?_ ?_ ?_ (Or.inl rfl) ?_ <;> simp [go_sem, ↓iO, iO, tN, w1, w2, w3, w4, w5]
  repeat (refine anI ?_)
  try (refine ⟨dcK, ?_⟩)
  repeat (first | (refine nf1_sound rfl ?_; simp [go_sem, ↓iO, iO, tN, w1, w2, w3, w4, w5, hlF]) | refine anI ?_ | refine ⟨dcK, ?_⟩ | ((first | refine iP ?_ | refine iN ?_); try simp [go_sem, ↓iO, iO, tN, w1, w2, w3, w4, w5, hlF]))
  refine CallK.fn (c2) [] [] [] (by kernel_rfl) ?_ ?_ ?_ (Or.inl rfl) ?_ <;> simp [go_sem, ↓iO, iO, tN, w1, w2, w3, w4, w5, hlF]
  repeat (refine anI ?_)
  try (refine ⟨dcK, ?_⟩)
  repeat (first | (refine nf1_sound rfl ?_; simp [go_sem, ↓iO, iO, tN, w1, w2, w3, w4, w5, hlF]) | refine anI ?_ | refine ⟨dcK, ?_⟩ | ((first | refine iP ?_ | refine iN ?_); try simp [go_sem, ↓iO, iO, tN, w1, w2, w3, w4, w5, hlF]))
  refine nf1_sound' _ _ _ ?_; simp only [nf1]
  refine CW.loop (ι := Nat) (fun k => ⟨[(13, .pt 146 [] 0), (47, .t (.sl 1 (fills.map encPs))), (48, .t (.int fills.length)), (49, .t (.int k))], [(146, .box 76 (.ag [.t (.agg d.net), .t (.agg d.plan), .t (.sl 1 (d.feeds.map encI)), .t (.sl 1 (ord.map encI)), .own 500, .t (.lit (.slice none 0 0)), .t (.lit (.slice none 0 0))])), (500, .list 41 1 ((fills.take k).map encPs))]⟩) (fun k => k ≤ fills.length) (fun k => fills.length - k) 0 [(146, some 146), (500, none)] (by omega) ?_ ?_
  · simp [go_sem, ↓iO, iO, tN]
    simp only [wkXs]
    exact ⟨wkT_refl _, rfl, wkT_refl _, rfl, wkT_refl _, rfl, wkT_refl _, rfl, rfl, rfl, wkT_refl _, rfl, wkT_refl _, rfl, trivial⟩
  intro k hk
  by_cases hb : k < fills.length
  · obtain ⟨f, hp⟩ := has_get hb
    have hfl := (hf.vd f (mem_get hp)).len
    have hp2 : fills[k] = f := (List.getElem?_eq_some_iff.1 hp).2
    have cc := clone_fn f (by omega)
    have e1 : (fills.take k).map encPs ++ [encPs f] = (fills.take (k + 1)).map encPs := by
      rw [List.take_succ_eq_append_getElem hb, hp2]; simp
    simp only [encPs] at e1
    repeat (first | (refine nf1_sound rfl ?_; simp [go_sem, ↓iO, iO, tN, hp, hp2, hb, w1, w2, w3, w4, w5]) | refine anI ?_ | refine ⟨dcK, ?_⟩ | ((first | refine iP ?_ | refine iN ?_); try simp [go_sem, ↓iO, iO, tN, hp, hp2, hb, w1, w2, w3, w4, w5]))
    refine CallK.fn (cc) [(1000, 600)] [] [] (by kernel_rfl) ?_ ?_ ?_ (Or.inl rfl) ?_ <;> simp [go_sem, ↓iO, iO, tN, hp, hp2, hb, w1, w2, w3, w4, w5]
    repeat (refine anI ?_)
    try (refine ⟨dcK, ?_⟩)
    repeat (first | (refine nf1_sound rfl ?_; simp [go_sem, ↓iO, iO, tN, hp, hp2, hb, w1, w2, w3, w4, w5]) | refine anI ?_ | refine ⟨dcK, ?_⟩ | ((first | refine iP ?_ | refine iN ?_); try simp [go_sem, ↓iO, iO, tN, hp, hp2, hb, w1, w2, w3, w4, w5]))
    rw [RoundQ_normal]; refine ⟨k + 1, [(146, some 146), (500, some 161)], ?_, ?_, ?_⟩
    · omega
    · omega
    have e2 := e1
    simp only [List.map_take] at e2
    simp [go_sem, ↓iO, iO, tN, e2.symm]
  · obtain rfl : k = fills.length := by omega
    rw [List.take_length]
    repeat (first | (refine nf1_sound rfl ?_; simp [go_sem, ↓iO, iO, tN]) | refine anI ?_ | refine ⟨dcK, ?_⟩ | ((first | refine iP ?_ | refine iN ?_); try simp [go_sem, ↓iO, iO, tN]))
    first | rw [RetQ_ret] | rw [RetQ_normal]
    refine ⟨[(1000, some 146), (1001, some 500)], ?_⟩
    simp [go_sem, ↓iO, iO, tN, map_some]
theorem atick_fn (d : LineD) (hd : LineOk d) (hn : NetC d) (fills : List (List (Int × Int))) (hf : FillsOk d fills) (ord : List Int) (hol : ord.length ≤ 1000) (ho : FnOk Tryz.prog 48 [.t (.agg d.net), .t (.agg d.plan)] [] (.tup [.t (.sl 1 (ord.map encI)), .t (.int 0)]) [])
    (hfd : ∀ b ∈ d.feeds, 0 ≤ b ∧ b < 1000) (F G O : Nat → List (Option (List (Int × Int)))) (hF0 : F 0 = fills.map some) (hG0 : G 0 = List.replicate d.segs.length none) (hO0 : O 0 = List.replicate d.ports.length none)
    (hN : ∀ k node, ord[k]? = some node → NodeC d (.sl 1 (ord.map encI)) node (F k) (G k) (O k) (F (k + 1)) (G (k + 1)) (O (k + 1))) :
    FnOk Tryz.prog 9 [.t (.agg d.net), .t (.sl 1 (fills.map encPs)), .t (.agg d.plan), .t (.sl 1 (d.feeds.map encI))] []
      (.tup [.own 1000, .own 1001, .t (.int 0)]) [(1000, blkG (F ord.length)), (1001, blkG (O ord.length))] := by
  have w1 := hd.w1
  have w2 := hd.w2
  have w3 := hd.w3
  have w4 := hd.w4
  have w5 := hd.w5
  have c1 := astart_fn d hd hn fills hf ord ho hfd
  have c2 := tick0_fn d hd ord hol F G O hG0 hO0 hN
  rw [hF0] at c2
  obtain ⟨X, hX⟩ : ∃ X, fills.map some = X := ⟨_, rfl⟩
  rw [hX] at c1 c2
  obtain ⟨F1, hF1⟩ : ∃ F1, F ord.length = F1 := ⟨_, rfl⟩
  obtain ⟨G1, hG1⟩ : ∃ G1, G ord.length = G1 := ⟨_, rfl⟩
  obtain ⟨O1, hO1⟩ : ∃ O1, O ord.length = O1 := ⟨_, rfl⟩
  rw [hF1, hG1, hO1] at c2
  rw [hF1, hO1]
  refine FnOk.intro fact_mixed Tryz.func9 rfl Tryz.ntmps9 (by rfl) (by simp) ?_
  repeat (first | (refine nf1_sound rfl ?_; simp [go_sem, ↓iO, iO, tN, w1, w2, w3, w4, w5]) | refine anI ?_ | refine ⟨dcK, ?_⟩ | ((first | refine iP ?_ | refine iN ?_); try simp [go_sem, ↓iO, iO, tN, w1, w2, w3, w4, w5]))
  refine CallK.fn (c1) [(1000, 600), (1001, 601)] [] [] (by kernel_rfl) ?_ ?_ ?_ (Or.inl rfl) ?_ <;> simp [go_sem, ↓iO, iO, tN, w1, w2, w3, w4, w5]
  repeat (refine anI ?_)
  try (refine ⟨dcK, ?_⟩)
  repeat (first | (refine nf1_sound rfl ?_; simp [go_sem, ↓iO, iO, tN, w1, w2, w3, w4, w5]) | refine anI ?_ | refine ⟨dcK, ?_⟩ | ((first | refine iP ?_ | refine iN ?_); try simp [go_sem, ↓iO, iO, tN, w1, w2, w3, w4, w5]))
  refine CallK.fn (c2) [(0, 600), (1, 601), (1000, 602), (1001, 603)] [] [] (by kernel_rfl) ?_ ?_ ?_ (Or.inl rfl) ?_ <;> simp [go_sem, ↓iO, iO, tN, w1, w2, w3, w4, w5]
  repeat (refine anI ?_)
  try (refine ⟨dcK, ?_⟩)
  repeat (first | (refine nf1_sound rfl ?_; simp [go_sem, ↓iO, iO, tN, w1, w2, w3, w4, w5]) | refine anI ?_ | refine ⟨dcK, ?_⟩ | ((first | refine iP ?_ | refine iN ?_); try simp [go_sem, ↓iO, iO, tN, w1, w2, w3, w4, w5]))
  first | rw [RetQ_ret] | rw [RetQ_normal]
  refine ⟨[(1000, some 601), (1001, some 603)], ?_⟩
  simp [go_sem, ↓iO, iO, tN]
end Go.Proofs.YtdjmklobfjigoaaGreatDoor
namespace Go.Proofs.YtdjmklobfjigoaaGreatDoor
open Go.RowKit Sy Dl
open Go.IntWalk renaming iteOmega → iO, toNatUp → tN
def TickC (d : LineD) (ord : List Int) (f0 f1 g1 o1 : List (Option (List (Int × Int)))) : Prop := ∀ gi oo : List (Option (List (Int × Int))),
  FnOk Tryz.prog 26 [.pt 0 [] 0] [(0, lineX d.net d.plan (.sl 1 (d.feeds.map encI)) (.sl 1 (ord.map encI)) (.own 2) (.own 3)), (1, blkG f0), (2, blkG gi), (3, blkG oo)]
      (.t (.int 0)) [(0, lineX d.net d.plan (.sl 1 (d.feeds.map encI)) (.sl 1 (ord.map encI)) (.own 1000) (.own 1001)), (1, blkG f1), (1000, blkG g1), (1001, blkG o1)]
def allV (O : Nat → List (Option (List (Int × Int)))) : Nat → Nat → List (Int × Int)
  | 0, i => []
  | k + 1, i => allV O k i ++ ((O (k + 1)).getD i none).getD []
@[go_sem] def lineY (net plan : List T) (feeds order : T) (f a b : S) : Blk := .box 76 (.ag [.t (.agg net), .t (.agg plan), .t feeds, .t order, f, a, b])
theorem arun_fn (d : LineD) (hd : LineOk d) (hn : NetC d) (fills : List (List (Int × Int))) (hf : FillsOk d fills) (ord : List Int) (ho : FnOk Tryz.prog 48 [.t (.agg d.net), .t (.agg d.plan)] [] (.tup [.t (.sl 1 (ord.map encI)), .t (.int 0)]) [])
    (hfd : ∀ b ∈ d.feeds, 0 ≤ b ∧ b < 1000) (ticks : Nat) (ht : ticks ≤ 400) (F G O : Nat → List (Option (List (Int × Int)))) (hF0 : F 0 = fills.map some) (hG0 : G 0 = []) (hO0 : O 0 = []) (hOl : ∀ k, (O (k + 1)).length = d.ports.length)
    (hT : ∀ k, k < ticks → TickC d ord (F k) (F (k + 1)) (G (k + 1)) (O (k + 1))) (hS : ∀ k i, k < ticks → Pc.Sane (allV O (k + 1) i)) (hz : ∀ k i p, k < ticks → p ∈ ((O (k + 1)).getD i none).getD [] → p.2 ≠ 0) (hL : ∀ k i, k < ticks → (Pc.join (allV O (k + 1) i)).length ≤ 200) :
    FnOk Tryz.prog 16 [.t (.agg d.net), .t (.sl 1 (fills.map encPs)), .t (.agg d.plan), .t (.sl 1 (d.feeds.map encI)), .t (.int ticks)] []
      (.tup [.own 1000, .t (.sl 1 ((List.range d.ports.length).map fun i => encPs (Pc.join (allV O ticks i)))), .t (.int 0)]) [(1000, blkG (F ticks))] := by
  have w1 := hd.w1
  have w2 := hd.w2
  have w3 := hd.w3
  have w4 := hd.w4
  have w5 := hd.w5
  have hmP := hd.maxP
  have c1 := astart_fn d hd hn fills hf ord ho hfd
  rw [← hF0] at c1
  obtain ⟨W, wl, wg, ws, wn, w0, wt, wf⟩ := rows_ex 40 d.ports.length (fun k i => Pc.join (allV O k i))
  have hW0 := w0 (fun q => rfl)
  have hwt := wt ticks
  refine FnOk.intro fact_mixed Tryz.func16 rfl Tryz.ntmps16 (by rfl) (by simp) ?_
  repeat (first | (refine nf1_sound rfl ?_; simp [go_sem, ↓iO, iO, tN, w1, w2, w3, w4, w5]) | refine anI ?_ | refine ⟨dcK, ?_⟩ | ((first | refine iP ?_ | refine iN ?_); try simp [go_sem, ↓iO, iO, tN, w1, w2, w3, w4, w5]))
  refine CallK.fn (c1) [(1000, 600), (1001, 601)] [] [] (by kernel_rfl) ?_ ?_ ?_ (Or.inl rfl) ?_ <;> simp [go_sem, ↓iO, iO, tN, w1, w2, w3, w4, w5]
  repeat (refine anI ?_)
  try (refine ⟨dcK, ?_⟩)
  repeat (first | (refine nf1_sound rfl ?_; simp [go_sem, ↓iO, iO, tN, w1, w2, w3, w4, w5]) | refine anI ?_ | refine ⟨dcK, ?_⟩ | ((first | refine iP ?_ | refine iN ?_); try simp [go_sem, ↓iO, iO, tN, w1, w2, w3, w4, w5]))
  refine nf1_sound' _ _ _ ?_; simp only [nf1]
  refine CW.toRows 139 (W 0 0) (e := 41) (s := 1) (xs := List.replicate d.ports.length (.lit (.slice none 0 0))) (by rfl) (by rw [wl]; simp) (fun i x u h1 h2 => ?_) ?_
  · rw [hW0, List.getElem?_replicate] at h2
    rw [List.getElem?_replicate] at h1
    split at h1
    · rename_i hi
      rw [if_pos hi] at h2
      cases h1; cases h2
      unfold relTU; trivial
    · cases h1
  simp [go_sem, ↓iO, iO, tN]
  refine CW.loop (ι := Nat) (fun k => ⟨[(13, .pt 600 [] 0), (15, .own 511), (40, .t (.int ticks)), (41, .t (.int k))], [(600, lineY d.net d.plan (.sl 1 (d.feeds.map encI)) (.sl 1 (ord.map encI)) (.own 601) (.own 602) (.own 603)), (601, blkG (F k)), (602, blkG (G k)), (603, blkG (O k)), (511, .rows 41 1 (W k 0) [])]⟩) (fun k => k ≤ ticks) (fun k => ticks - k) 0
    [(600, some 600), (601, some 601), (602, none), (603, none), (511, some 139)] (by omega) ?_ ?_
  · simp [go_sem, ↓iO, iO, tN, hG0, hO0]
  intro k hk
  by_cases hb : k < ticks
  · have ct := hT k hb (G k) (O k)
    have hol := hOl k
    obtain ⟨F0, hF0⟩ : ∃ X, F k = X := ⟨_, rfl⟩
    obtain ⟨G0, hG0⟩ : ∃ X, G k = X := ⟨_, rfl⟩
    obtain ⟨O0, hO0⟩ : ∃ X, O k = X := ⟨_, rfl⟩
    obtain ⟨F1, hF1⟩ : ∃ X, F (k + 1) = X := ⟨_, rfl⟩
    obtain ⟨G1, hG1⟩ : ∃ X, G (k + 1) = X := ⟨_, rfl⟩
    obtain ⟨O1, hO1⟩ : ∃ X, O (k + 1) = X := ⟨_, rfl⟩
    rw [hF0, hG0, hO0, hF1, hG1, hO1] at ct
    rw [hF0, hG0, hO0]
    rw [hO1] at hol
    repeat (first | (refine nf1_sound rfl ?_; simp [go_sem, ↓iO, iO, tN, hb]) | refine anI ?_ | refine ⟨dcK, ?_⟩ | ((first | refine iP ?_ | refine iN ?_); try simp [go_sem, ↓iO, iO, tN, hb]))
    refine CallK.fn (ct) [(0, 600), (1, 601), (2, 602), (3, 603), (1000, 612), (1001, 613)] [] [] (by kernel_rfl) ?_ ?_ ?_ (Or.inl rfl) ?_ <;> simp [go_sem, ↓iO, iO, tN]
    repeat (refine anI ?_)
    try (refine ⟨dcK, ?_⟩)
    repeat (first | (refine nf1_sound rfl ?_; simp [go_sem, ↓iO, iO, tN]) | refine anI ?_ | refine ⟨dcK, ?_⟩ | ((first | refine iP ?_ | refine iN ?_); try simp [go_sem, ↓iO, iO, tN]))
    refine nf1_sound' _ _ _ ?_; simp only [nf1]
    refine CW.loop (ι := Nat) (fun i => ⟨[(13, .pt 600 [] 0), (15, .own 511), (40, .t (.int ticks)), (41, .t (.int k)), (51, .own 613), (52, .t (.int d.ports.length)), (53, .t (.int i))], [(600, lineY d.net d.plan (.sl 1 (d.feeds.map encI)) (.sl 1 (ord.map encI)) (.own 601) (.own 612) (.own 613)), (601, blkG F1), (612, blkG G1), (613, blkG O1), (511, .rows 41 1 (W k i) [])]⟩) (fun i => i ≤ d.ports.length) (fun i => d.ports.length - i) 0
      [(600, some 600), (601, some 601), (612, some 612), (613, some 613), (511, some 511)] (by omega) ?_ ?_
    · simp [go_sem, ↓iO, iO, tN, hol]
    intro i hi
    by_cases hb2 : i < d.ports.length
    · have hwl := wl k i
      have hwg := wg k i hb2
      have hws := ws k i hb2
      obtain ⟨o, hoi⟩ : ∃ o, O1[i]? = some o := has_get (by omega)
      have hoi2 : O1[i]'(by omega) = o := (List.getElem?_eq_some_iff.1 hoi).2
      have hod : (O1.getD i none).getD [] = o.getD [] := by rw [List.getD_eq_getElem?_getD, hoi]; rfl
      have ha : allV O (k + 1) i = allV O k i ++ o.getD [] := by simp only [allV, hO1, hod]
      have hs := hS k i hb
      have hzz := fun p => hz k i p hb
      rw [hO1, hod] at hzz
      have hll := hL k i hb
      rw [ha] at hs hws hll
      have j1 := join_fn (allV O k i) (o.getD []) hs hzz
      obtain ⟨J, hJ⟩ : ∃ J, Pc.join (allV O k i) = J := ⟨_, rfl⟩
      obtain ⟨J2, hJ2⟩ : ∃ J2, Pc.join (allV O k i ++ o.getD []) = J2 := ⟨_, rfl⟩
      rw [hJ, hJ2] at j1
      rw [hJ] at hwg
      rw [hJ2] at hws hll
      obtain ⟨X1, hX1⟩ : ∃ X, W k i = X := ⟨_, rfl⟩
      rw [hX1] at hwl hwg hws ⊢
      have hol2 : i < O1.length := by omega
      cases o with
      | none =>
        iterate 4 (refine nf1_sound rfl ?_; simp [go_sem, ↓iO, iO, tN, hoi, hoi2, hol2, hb2, hol, widths_gv, width_gv]; (repeat (refine anI ?_)); try (refine ⟨dcK, ?_⟩))
        refine CW.openRow 511 i 555 (us := X1) (ex := []) (u := .ow 40 2 (J.map encP)) (b := .list 40 2 (J.map encP)) (by rfl) hwg (by rfl) (by rfl) (by kernel_rfl) (by omega) ?_
        simp [go_sem, ↓iO, iO, tN]
        iterate 1 (refine nf1_sound rfl ?_; simp [go_sem, ↓iO, iO, tN, hwl, hwg, hb2]; (repeat (refine anI ?_)); try (refine ⟨dcK, ?_⟩))
        refine CallK.fn (j1) [(0, 555), (1000, 660)] [] [] (by kernel_rfl) ?_ ?_ ?_ (Or.inl rfl) ?_ <;> simp [go_sem, ↓iO, iO, tN, hwl, hwg, hb2]
        repeat (refine anI ?_)
        try (refine ⟨dcK, ?_⟩)
        iterate 1 (refine nf1_sound rfl ?_; simp [go_sem, ↓iO, iO, tN, hwl, hwg, hb2, hll]; (repeat (refine anI ?_)); try (refine ⟨dcK, ?_⟩))
        refine CW.closeRow 511 i 660 (.ow 40 2 (J2.map encP)) (us := X1) (ex := [(i, .own 660)]) (by rfl) (by rfl) (by simp [go_sem]) (by rfl) ?_
        simp [go_sem, ↓iO, iO, tN, hws]
        repeat (first | (refine nf1_sound rfl ?_; simp [go_sem, ↓iO, iO, tN, hll]) | refine anI ?_ | refine ⟨dcK, ?_⟩ | ((first | refine iP ?_ | refine iN ?_); try simp [go_sem, ↓iO, iO, tN, hll]))
        rw [RoundQ_normal]; refine ⟨i + 1, [(600, some 600), (601, some 601), (612, some 612), (613, some 613), (511, some 511)], ?_, ?_, ?_⟩
        · omega
        · omega
        simp [go_sem, ↓iO, iO, tN]
      | some o =>
        iterate 4 (refine nf1_sound rfl ?_; simp [go_sem, ↓iO, iO, tN, hoi, hoi2, hol2, hb2, hol, widths_gv, width_gv]; (repeat (refine anI ?_)); try (refine ⟨dcK, ?_⟩))
        refine CW.openRow 511 i 555 (us := X1) (ex := []) (u := .ow 40 2 (J.map encP)) (b := .list 40 2 (J.map encP)) (by rfl) hwg (by rfl) (by rfl) (by kernel_rfl) (by omega) ?_
        simp [go_sem, ↓iO, iO, tN]
        iterate 1 (refine nf1_sound rfl ?_; simp [go_sem, ↓iO, iO, tN, hwl, hwg, hb2]; (repeat (refine anI ?_)); try (refine ⟨dcK, ?_⟩))
        refine CallK.fn (j1) [(0, 555), (1000, 660)] [] [] (by kernel_rfl) ?_ ?_ ?_ (Or.inl rfl) ?_ <;> simp [go_sem, ↓iO, iO, tN, hwl, hwg, hb2]
        repeat (refine anI ?_)
        try (refine ⟨dcK, ?_⟩)
        iterate 1 (refine nf1_sound rfl ?_; simp [go_sem, ↓iO, iO, tN, hwl, hwg, hb2, hll]; (repeat (refine anI ?_)); try (refine ⟨dcK, ?_⟩))
        refine CW.closeRow 511 i 660 (.ow 40 2 (J2.map encP)) (us := X1) (ex := [(i, .own 660)]) (by rfl) (by rfl) (by simp [go_sem]) (by rfl) ?_
        simp [go_sem, ↓iO, iO, tN, hws]
        repeat (first | (refine nf1_sound rfl ?_; simp [go_sem, ↓iO, iO, tN, hll]) | refine anI ?_ | refine ⟨dcK, ?_⟩ | ((first | refine iP ?_ | refine iN ?_); try simp [go_sem, ↓iO, iO, tN, hll]))
        rw [RoundQ_normal]; refine ⟨i + 1, [(600, some 600), (601, some 601), (612, some 612), (613, some 613), (511, some 511)], ?_, ?_, ?_⟩
        · omega
        · omega
        simp [go_sem, ↓iO, iO, tN]
    · obtain rfl : i = d.ports.length := by omega
      rw [wn]
      repeat (first | (refine nf1_sound rfl ?_; simp [go_sem, ↓iO, iO, tN]) | refine anI ?_ | refine ⟨dcK, ?_⟩ | ((first | refine iP ?_ | refine iN ?_); try simp [go_sem, ↓iO, iO, tN]))
      rw [RoundQ_normal]; refine ⟨k + 1, [(600, some 600), (601, some 601), (602, some 612), (603, some 613), (511, some 511)], ?_, ?_, ?_⟩
      · omega
      · omega
      simp [go_sem, ↓iO, iO, tN, hF1, hG1, hO1]
  · obtain rfl : k = ticks := by omega
    repeat (first | (refine nf1_sound rfl ?_; simp [go_sem, ↓iO, iO, tN]) | refine anI ?_ | refine ⟨dcK, ?_⟩ | ((first | refine iP ?_ | refine iN ?_); try simp [go_sem, ↓iO, iO, tN]))
    first | rw [RetQ_ret] | rw [RetQ_normal]
    refine ⟨[(1000, some 601)], ?_⟩
    simp [go_sem, ↓iO, iO, tN, hwt]
end Go.Proofs.YtdjmklobfjigoaaGreatDoor
namespace Go.Proofs.YtdjmklobfjigoaaGreatDoor
open Go.RowKit Sy Dl
abbrev Fi := List (Option (List (Int × Int)))
theorem node_seg (d : LineD) (hd : LineOk d) (order : T) (w6 : order.width = 1) (fi gi oo : Fi) (node : Int) (hg : gi.length = d.segs.length) (hfl : fi.length = d.segs.length) (hol : oo.length = d.ports.length)
    (l : List (Int × Int)) (hc : comesV d gi node = l) (hnz : ∀ z ∈ segYs node true 0 (d.segs.map (·.1)) d.rates, ∀ p ∈ gvAt gi z, p.2 ≠ 0) (hl : Pc.Vd l) (hne : l ≠ []) (k : Nat) (r : Int) (hP : prtYs node false 0 d.ports d.prates = []) (hS : segYs node false 0 (d.segs.map (·.1)) d.rates = [(k, r)])
    (hr : 0 < r) (h1 : r ≤ 1000) (hv : Pc.vol l = r) (f n o : List (Int × Int)) (hf : fi[k]? = some (some f)) (hfv : Pc.Vd f) (hp : PushOk f (if backAt d.rates (k, r) then l else l.reverse) (backAt d.rates (k, r)) n o) :
    NodeC d order node fi gi oo (fi.set k (some n)) (gi.set k (some (if backAt d.rates (k, r) then o else o.reverse))) oo := by
  have hg0 : gvAt fi (k, r) = f := by unfold gvAt; rw [List.getD_eq_getElem?_getD, hf]; rfl
  have hfl2 := hfv.len
  have hll := hl.len
  have hol2 := hp.vo.len
  obtain ⟨b, hb⟩ : ∃ b, backAt d.rates (k, r) = b := ⟨_, rfl⟩
  rw [hb] at hp ⊢
  have hfill : fillV f l b = n := by
    cases b <;> simp [fillV] <;> simp only [Bool.false_eq_true, if_false, if_true] at hp <;> simp [hp.eq]
  have hout : outV f l b = if b then o else o.reverse := by
    cases b <;> simp [outV] <;> simp only [Bool.false_eq_true, if_false, if_true] at hp <;> simp [hp.eq]
  have hpe : pushE f l b = 0 := by
    cases b <;> simp [pushE] <;> simp only [Bool.false_eq_true, if_false, if_true] at hp <;> simp [hp.eq]
  have := node_fn d hd order w6 fi gi oo node hg hfl hol (by rw [hc]; exact hl.sane) hnz l (by rw [hc]; exact Pc.join_self hl.canon) hne hll [] [(k, r)] hP hS [l] (deal_one r hr h1 l hl (by omega) hne) rfl
    (fun j y hy => by
      match j, hy with
      | 0, hy =>
        simp at hy; subst hy
        rw [hb, hg0]
        refine ⟨⟨f, hf, by omega⟩, by simp; omega, ?_, by simpa using hpe⟩
        simp only [List.length_nil, Nat.zero_add, List.getD_cons_zero]
        rw [hout]
        cases b <;> simp <;> omega
      | j + 1, hy => simp at hy)
  unfold NodeC
  simp only [List.length_singleton, List.length_nil, setK, nodeF, nodeG, outO, List.getD_cons_zero, hb, hg0, Nat.zero_add, hfill, hout] at this
  exact this
theorem node_prt (d : LineD) (hd : LineOk d) (order : T) (w6 : order.width = 1) (fi gi oo : Fi) (node : Int) (hg : gi.length = d.segs.length) (hfl : fi.length = d.segs.length) (hol : oo.length = d.ports.length)
    (l : List (Int × Int)) (hc : comesV d gi node = l) (hnz : ∀ z ∈ segYs node true 0 (d.segs.map (·.1)) d.rates, ∀ p ∈ gvAt gi z, p.2 ≠ 0) (hl : Pc.Vd l) (hne : l ≠ []) (k : Nat) (r : Int) (hP : prtYs node false 0 d.ports d.prates = [(k, r)]) (hS : segYs node false 0 (d.segs.map (·.1)) d.rates = [])
    (hr : 0 < r) (h1 : r ≤ 1000) (hv : Pc.vol l = r) :
    NodeC d order node fi gi oo fi gi (oo.set k (some l)) := by
  have hll := hl.len
  have := node_fn d hd order w6 fi gi oo node hg hfl hol (by rw [hc]; exact hl.sane) hnz l (by rw [hc]; exact Pc.join_self hl.canon) hne hll [(k, r)] [] hP hS [l] (deal_one r hr h1 l hl (by omega) hne) rfl (fun j y hy => by simp at hy)
  unfold NodeC
  simp only [List.length_singleton, List.length_nil, setK, nodeF, nodeG, outO, List.getD_cons_zero] at this
  exact this
theorem push_eq {f g n o : List (Int × Int)} {back : Bool} (hf : Pc.Vd f) (hg : Pc.Vd g) (h : Pc.shift f g back = (n, o)) (hn : n.length ≤ 200) (ho : o.length ≤ 200) : Pc.push f g back = (n, o, 0) := by
  unfold Pc.push
  rw [if_pos ⟨Pc.valid_t hf, Pc.valid_t hg⟩, h, if_pos ⟨hn, ho⟩]
theorem push_at {f g n o : List (Int × Int)} {back : Bool} (hf : Pc.Vd f) (hg : Pc.Vd g) (hl : f.length + g.length ≤ 200) (h : Pc.shift f g back = (n, o)) : PushOk f g back n o := by
  obtain ⟨n', o', hp⟩ := push_small hf hg hl back
  have := hp.eq
  rw [push_eq hf hg h ?_ ?_] at this
  · cases this; exact hp
  all_goals
    have h2 := hp.eq
    unfold Pc.push at h2
    rw [if_pos ⟨Pc.valid_t hf, Pc.valid_t hg⟩, h] at h2
    split at h2
    · rename_i h3; first | exact h3.1 | exact h3.2
    · cases h2
def rle (L : List Int) : List (Int × Int) := Pc.join (L.map fun b => (b, 1))
theorem rle_canon (L : List Int) : Pc.Canon (rle L) := Pc.join_canon (by simp)
theorem rle_lit (L : List Int) : Pc.litres (rle L) = L := by
  rw [rle, Pc.join_litres (by simp)]
  induction L with
  | nil => rfl
  | cons a r ih => rw [List.map_cons, Pc.litres_cons, ih]; rfl
theorem rle_of {f : List (Int × Int)} {L : List Int} (hc : Pc.Canon f) (h : Pc.litres f = L) : f = rle L := Pc.canon_unique hc (rle_canon L) (by rw [h, rle_lit])
theorem rle_take (L : List Int) (k : Nat) : (rle (L.take k)).length ≤ (rle L).length := by
  have hp : ∀ p ∈ rle L, 0 ≤ p.2 := fun p hp => Int.le_of_lt ((rle_canon L).pos p hp)
  have hh : ∀ p ∈ Pc.heads (rle L) k, 0 ≤ p.2 := by
    have := Pc.heads_each (rle L)
    intro p hp'
    obtain ⟨i, hi, rfl⟩ := List.getElem_of_mem hp'
    have gen : ∀ (ps : List (Int × Int)) (k : Int), (∀ p ∈ ps, 0 ≤ p.2) → 0 ≤ k → ∀ p ∈ Pc.heads ps k, 0 ≤ p.2 := by
      intro ps
      induction ps with
      | nil => intro k _ _ p hp; simp [Pc.heads] at hp
      | cons a r ih =>
        intro k ha hk p hp
        simp only [Pc.heads, List.mem_cons] at hp
        have h0 := ha a (by simp)
        rcases hp with rfl | hp
        · show 0 ≤ min a.2 k; omega
        · exact ih _ (fun q hq => ha q (by simp [hq])) (by omega) p hp
    exact gen _ _ hp (by omega) _ hp'
  have : rle (L.take k) = Pc.join (Pc.heads (rle L) k) := (rle_of (Pc.join_canon hh) (by rw [Pc.join_litres hh, Pc.heads_litres _ hp, rle_lit])).symm
  rw [this]
  have := Pc.join_length (Pc.heads (rle L) k)
  rw [Pc.heads_length] at this
  exact this
theorem rle_drop (L : List Int) (k : Nat) : (rle (L.drop k)).length ≤ (rle L).length := by
  have hp : ∀ p ∈ rle L, 0 ≤ p.2 := fun p hp => Int.le_of_lt ((rle_canon L).pos p hp)
  have hh : ∀ p ∈ Pc.tails (rle L) k, 0 ≤ p.2 := by
    have gen : ∀ (ps : List (Int × Int)) (k : Int), (∀ p ∈ ps, 0 ≤ p.2) → 0 ≤ k → ∀ p ∈ Pc.tails ps k, 0 ≤ p.2 := by
      intro ps
      induction ps with
      | nil => intro k _ _ p hp; simp [Pc.tails] at hp
      | cons a r ih =>
        intro k ha hk p hp
        simp only [Pc.tails, List.mem_cons] at hp
        have h0 := ha a (by simp)
        rcases hp with rfl | hp
        · show 0 ≤ a.2 - min a.2 k; omega
        · exact ih _ (fun q hq => ha q (by simp [hq])) (by omega) p hp
    exact gen _ _ hp (by omega)
  have : rle (L.drop k) = Pc.join (Pc.tails (rle L) k) := (rle_of (Pc.join_canon hh) (by rw [Pc.join_litres hh, Pc.tails_litres _ hp, rle_lit])).symm
  rw [this]
  have := Pc.join_length (Pc.tails (rle L) k)
  rw [Pc.tails_length] at this
  exact this
theorem canon_rev : ∀ {l : List (Int × Int)}, Pc.Canon l → Pc.Canon l.reverse
  | [], _ => trivial
  | p :: r, h => by
    obtain ⟨h0, h1, h2⟩ := h
    rw [List.reverse_cons, Pc.canon_snoc]
    refine ⟨canon_rev h2, h0, fun q hq => ?_⟩
    rw [List.getLast?_reverse] at hq
    exact fun e => h1 q hq e.symm
theorem rle_rev (L : List Int) : rle L.reverse = (rle L).reverse := (rle_of (canon_rev (rle_canon L)) (by rw [litres_rev, rle_lit])).symm
def win (X : List Int) (p n : Nat) : List Int := (X.drop p).take n
theorem win_len {X : List Int} {p n : Nat} (h : p + n ≤ X.length) : (win X p n).length = n := by simp only [win, List.length_take, List.length_drop]; omega
theorem win_mem {X : List Int} {p n : Nat} {b : Int} (h : b ∈ win X p n) : b ∈ X := List.mem_of_mem_drop (List.mem_of_mem_take h)
theorem win_app (X : List Int) (p n m : Nat) : win X p n ++ win X (p + n) m = win X p (n + m) := by
  simp only [win]
  rw [List.take_add, List.drop_drop]
theorem win_take (X : List Int) (p n m : Nat) (h : m ≤ n) : (win X p n).take m = win X p m := by simp only [win, List.take_take]; congr 1; omega
theorem win_drop (X : List Int) (p n m : Nat) : (win X p (m + n)).drop m = win X (p + m) n := by
  simp only [win]
  rw [List.drop_take, List.drop_drop]; congr 1; omega
structure TpOk (X : List Int) : Prop where
  bt : ∀ b ∈ X, 0 ≤ b ∧ b < 1000
  ln : X.length ≤ 1000000
  rn : (rle X).length ≤ 90
theorem vd_rle {L : List Int} (h1 : ∀ b ∈ L, 0 ≤ b ∧ b < 1000) (h2 : L.length ≤ 1000000) (h3 : (rle L).length ≤ 200) : Pc.Vd (rle L) := by
  refine Pc.vd_of_canon (rle_canon L) (fun p hp => ?_) h3 ?_
  · have := mem_litres hp ((rle_canon L).pos p hp)
    rw [rle_lit] at this
    exact h1 _ this
  · rw [vol_litres (rle_canon L), rle_lit]; omega
theorem win_rn {X : List Int} (h : TpOk X) (p n : Nat) : (rle (win X p n)).length ≤ 90 := by
  have h1 := rle_take (X.drop p) n
  have h2 := rle_drop X p
  have := h.rn
  simp only [win]; omega
theorem win_vd {X : List Int} (h : TpOk X) (p n : Nat) : Pc.Vd (rle (win X p n)) := by
  have h3 := win_rn h p n
  refine vd_rle (fun b hb => h.bt b (win_mem hb)) ?_ (by omega)
  have := h.ln
  simp only [win, List.length_take, List.length_drop]; omega
theorem rle_vol (L : List Int) : Pc.vol (rle L) = L.length := by rw [vol_litres (rle_canon L), rle_lit]
def sgW (X : List Int) (p c : Nat) (fw : Bool) : List (Int × Int) := if fw then rle (win X p c) else (rle (win X p c)).reverse
theorem sgW_vd {X : List Int} (h : TpOk X) (p c : Nat) (fw : Bool) : Pc.Vd (sgW X p c fw) := by
  unfold sgW; split
  · exact win_vd h p c
  · exact vd_rev (win_vd h p c)
theorem sgW_len {X : List Int} (h : TpOk X) (p c : Nat) (fw : Bool) : (sgW X p c fw).length ≤ 90 := by
  have := win_rn h p c
  unfold sgW; split <;> simp <;> omega
theorem sgW_vol {X : List Int} {p c : Nat} (h : p + c ≤ X.length) (fw : Bool) : Pc.vol (sgW X p c fw) = c := by
  unfold sgW; split
  · rw [rle_vol, win_len h]
  · rw [vol_rev, rle_vol, win_len h]
theorem sgW_lit (X : List Int) (p c : Nat) (fw : Bool) : Pc.litres (sgW X p c fw) = if fw then win X p c else (win X p c).reverse := by
  unfold sgW; split
  · rw [rle_lit]
  · rw [litres_rev, rle_lit]
theorem sgW_canon (X : List Int) (p c : Nat) (fw : Bool) : Pc.Canon (sgW X p c fw) := by
  unfold sgW; split
  · exact rle_canon _
  · exact canon_rev (rle_canon _)
def stW (X : List Int) (p r : Nat) : List (Int × Int) := (rle (win X p r)).reverse
theorem stW_vd {X : List Int} (h : TpOk X) (p r : Nat) : Pc.Vd (stW X p r) := vd_rev (win_vd h p r)
theorem stW_vol {X : List Int} {p r : Nat} (h : p + r ≤ X.length) : Pc.vol (stW X p r) = r := by rw [stW, vol_rev, rle_vol, win_len h]
theorem push_win {X : List Int} (h : TpOk X) (p r c : Nat) (hX : p + r + c ≤ X.length) (fw : Bool) :
    ∃ o, PushOk (sgW X (p + r) c fw) (if !fw then stW X p r else (stW X p r).reverse) (!fw) (sgW X p c fw) o ∧ (if !fw then o else o.reverse) = stW X (p + c) r := by
  have hg : Pc.Vd (if !fw then stW X p r else (stW X p r).reverse) := by
    split
    · exact stW_vd h p r
    · exact vd_rev (stW_vd h p r)
  have hl1 := sgW_len h (p + r) c fw
  have hl2 := win_rn h p r
  have lr : (win X p r).length = r := win_len (by omega)
  have lc : (win X (p + r) c).length = c := win_len (by omega)
  have hs : (sgW X (p + r) c fw).length + (if !fw then stW X p r else (stW X p r).reverse).length ≤ 200 := by
    have : (if !fw then stW X p r else (stW X p r).reverse).length = (rle (win X p r)).length := by split <;> simp [stW]
    omega
  obtain ⟨n, o, hp⟩ := push_small (sgW_vd h (p + r) c fw) hg hs (!fw)
  have hn := hp.ln
  have ho := hp.lo
  rw [sgW_lit] at hn ho
  have e0 : win X p r ++ win X (p + r) c = win X p (r + c) := win_app X p r c
  have e1 : (win X p (r + c)).take c = win X p c := win_take X p (r + c) c (by omega)
  have e2 : (win X p (r + c)).drop c = win X (p + c) r := by rw [Nat.add_comm r c]; exact win_drop X p r c
  have lrc : (win X p (r + c)).length = r + c := win_len (by omega)
  cases fw with
  | true =>
    simp only [Bool.not_true, Bool.false_eq_true, if_false, if_true, stW, List.reverse_reverse, rle_lit] at hn ho hp ⊢
    rw [lc, e0, e1] at hn
    rw [lc, e0, e2] at ho
    have h1 := rle_of hp.vn.canon hn
    have h2 := rle_of hp.vo.canon ho
    refine ⟨o, ?_, by rw [h2]⟩
    have : sgW X p c true = n := by rw [h1]; rfl
    rw [this]; exact hp
  | false =>
    simp only [Bool.not_false, Bool.false_eq_true, if_false, if_true, stW, litres_rev, rle_lit, List.length_reverse] at hn ho hp ⊢
    rw [← List.reverse_append, e0, lr] at hn ho
    rw [List.drop_reverse, lrc, Nat.add_sub_cancel_left, e1] at hn
    rw [List.take_reverse, lrc, Nat.add_sub_cancel_left, e2] at ho
    have h1 := rle_of hp.vn.canon hn
    have h2 := rle_of hp.vo.canon ho
    rw [rle_rev] at h1 h2
    refine ⟨o, ?_, h2⟩
    have : sgW X p c false = n := by rw [h1]; rfl
    rw [this]; exact hp
theorem litres_rep (r : Nat) (b : Int) : Pc.litres [(b, (r : Int))] = List.replicate r b := by simp [Pc.litres]
theorem stW_fed {X : List Int} {p r : Nat} {b : Int} (hr : 0 < r) (h : win X p r = List.replicate r b) : stW X p r = [(b, (r : Int))] := by
  have : [(b, (r : Int))] = rle (win X p r) := rle_of ⟨by show (0 : Int) < r; omega, by simp, trivial⟩ (by rw [litres_rep, h])
  rw [stW, ← this]; rfl
end Go.Proofs.YtdjmklobfjigoaaGreatDoor
namespace Go.Proofs.YtdjmklobfjigoaaGreatDoor
open Go.RowKit Sy
open Go.IntWalk renaming iteOmega → iO, toNatUp → tN
@[go_sem] def encS (k : List Nat) : T := .lit (.string (str k))
abbrev Stn := List Nat × Int × Int × Int × Int
@[go_sem] def encSn (s : Stn) : T := .agg [.lit (.string (str s.1)), .int s.2.1, .int s.2.2.1, .int s.2.2.2.1, .int s.2.2.2.2]
structure NetD where
  nn : List (List Nat)
  segs : List Sgm
  ports : List Prt
  stns : List Stn
  vap : Int
  stl : Int
@[go_sem] def NetD.l (d : NetD) : List T := [.sl 1 (d.nn.map encS), .sl 7 (d.segs.map encSg), .sl 3 (d.ports.map encPr), .sl 5 (d.stns.map encSn), .int d.vap, .int d.stl]
structure NameOk (k : List Nat) : Prop where
  by_ : ∀ x ∈ k, x < 256
  fn : FnOk Tryz.prog 59 [.t (encS k)] [] (.t (.bool true)) []
structure NetOk (d : NetD) : Prop where
  n0 : 1 ≤ d.nn.length
  n1 : d.nn.length ≤ 24
  s1 : d.segs.length ≤ 32
  p1 : d.ports.length ≤ 24
  t1 : d.stns.length ≤ 12
  nmN : ∀ k ∈ d.nn, NameOk k
  nmS : ∀ s ∈ d.segs, NameOk s.1.nm
  nmP : ∀ p ∈ d.ports, NameOk p.1
  nmT : ∀ s ∈ d.stns, NameOk s.1
  ndN : d.nn.Nodup
  ndS : (d.segs.map fun s => s.1.nm).Nodup
  ndP : (d.ports.map fun p => p.1).Nodup
  ndT : (d.stns.map fun s => s.1).Nodup
  ndU : (d.stns.map fun s => s.2.1).Nodup
  knS : ∀ s ∈ d.segs, (0 ≤ s.1.fr ∧ s.1.fr < d.nn.length) ∧ 0 ≤ s.1.to ∧ s.1.to < d.nn.length
  knP : ∀ p ∈ d.ports, 0 ≤ p.2.1 ∧ p.2.1 < d.nn.length
  knT : ∀ s ∈ d.stns, 0 ≤ s.2.1 ∧ s.2.1 < d.nn.length
  pipe : ∀ s ∈ d.segs, PipeOk s
  prs : ∀ p ∈ d.ports, 0 ≤ p.2.2 ∧ p.2.2 ≤ 100000000
  stn : ∀ s ∈ d.stns, (0 ≤ s.2.2.1 ∧ s.2.2.1 ≤ 100000000) ∧ (0 ≤ s.2.2.2.1 ∧ s.2.2.2.1 ≤ 100000) ∧ 0 ≤ s.2.2.2.2 ∧ s.2.2.2.2 ≤ 100000000
  vap : -100000 ≤ d.vap ∧ d.vap ≤ 100000000
  stl : 0 ≤ d.stl ∧ d.stl ≤ 100
theorem strB_inj {a b : List Nat} (ha : ∀ x ∈ a, x < 256) (hb : ∀ x ∈ b, x < 256) (h : (str a).toList = (str b).toList) : a = b := by
  rw [str_toList, str_toList] at h
  have gen : ∀ a b : List Nat, (∀ x ∈ a, x < 256) → (∀ x ∈ b, x < 256) → (a.map fun c => UInt8.ofNat c) = (b.map fun c => UInt8.ofNat c) → a = b := by
    intro a
    induction a with
    | nil => intro b _ _ h; cases b <;> simp_all
    | cons x r ih =>
      intro b ha hb h
      cases b with
      | nil => simp at h
      | cons y s =>
        simp only [List.map_cons, List.cons.injEq] at h
        have h1 := congrArg UInt8.toNat h.1
        simp at h1
        have hx := ha x (by simp)
        have hy := hb y (by simp)
        rw [ih s (fun z hz => ha z (by simp [hz])) (fun z hz => hb z (by simp [hz])) h.2]
        congr 1
        omega
  exact gen a b ha hb h
theorem lim_idx (l : List (Sgm)) (hlen : l.length ≤ 1000000) (hall : ∀ p ∈ l, FnOk Tryz.prog 80 [.t (encSg p)] [] (.t (.bool false)) []) : FnOk Tryz.prog 120 [.t (.sl 7 (l.map encSg)), .fn 80 []] [] (.t (.int (-1))) [] := by
  refine FnOk.intro fact_mixed Tryz.func120 rfl Tryz.ntmps120 (by rfl) (by simp) ?_
  repeat (first | (refine nf1_sound rfl ?_; simp [go_sem, ↓iO, iO, tN]) | refine anI ?_ | refine ⟨dcK, ?_⟩ | ((first | refine iP ?_ | refine iN ?_); try simp [go_sem, ↓iO, iO, tN]))
  refine nf1_sound' _ _ _ ?_; simp only [nf1]
  refine CW.loop (ι := Nat) (fun k => ⟨[(0, .t (.sl 7 (l.map encSg))), (1, .fn 80 []), (7, .t (.int l.length)), (8, .t (.int k))], []⟩) (fun k => k ≤ l.length) (fun k => l.length - k) 0 [] (by omega) ?_ ?_
  · simp [go_sem, ↓iO, iO, tN]
  intro k hk
  by_cases hb : k < l.length
  · obtain ⟨p, hp⟩ := has_get hb
    have hu := hall p (mem_get hp)
    repeat (first | (refine nf1_sound rfl ?_; simp [go_sem, ↓iO, iO, tN, hp]) | refine anI ?_ | refine ⟨dcK, ?_⟩ | ((first | refine iP ?_ | refine iN ?_); try simp [go_sem, ↓iO, iO, tN, hp]))
    refine CallK.fn (hu) [] [] [] (by kernel_rfl) ?_ ?_ ?_ (Or.inl rfl) ?_ <;> simp [go_sem, ↓iO, iO, tN]
    repeat (refine anI ?_)
    try (refine ⟨dcK, ?_⟩)
    repeat (first | (refine nf1_sound rfl ?_; simp [go_sem, ↓iO, iO, tN]) | refine anI ?_ | refine ⟨dcK, ?_⟩ | ((first | refine iP ?_ | refine iN ?_); try simp [go_sem, ↓iO, iO, tN]))
    rw [RoundQ_normal]; refine ⟨k + 1, [], ?_, ?_, ?_⟩
    · omega
    · omega
    simp [go_sem, ↓iO, iO, tN]
  · obtain rfl : k = l.length := by omega
    repeat (first | (refine nf1_sound rfl ?_; simp [go_sem, ↓iO, iO, tN]) | refine anI ?_ | refine ⟨dcK, ?_⟩ | ((first | refine iP ?_ | refine iN ?_); try simp [go_sem, ↓iO, iO, tN]))
    first | rw [RetQ_ret] | rw [RetQ_normal]
    refine ⟨[], ?_⟩
    simp [go_sem, ↓iO, iO, tN]
theorem lim_cont (l : List (Sgm)) (hlen : l.length ≤ 1000000) (hall : ∀ p ∈ l, FnOk Tryz.prog 80 [.t (encSg p)] [] (.t (.bool false)) []) : FnOk Tryz.prog 79 [.t (.sl 7 (l.map encSg)), .fn 80 []] [] (.t (.bool false)) [] := by
  refine FnOk.intro fact_mixed Tryz.func79 rfl Tryz.ntmps79 (by rfl) (by simp) ?_
  repeat (first | (refine nf1_sound rfl ?_; simp [go_sem, ↓iO, iO, tN]) | refine anI ?_ | refine ⟨dcK, ?_⟩ | ((first | refine iP ?_ | refine iN ?_); try simp [go_sem, ↓iO, iO, tN]))
  refine CallK.fn (lim_idx l hlen hall) [] [] [] (by kernel_rfl) ?_ ?_ ?_ (Or.inl rfl) ?_ <;> simp [go_sem, ↓iO, iO, tN]
  repeat (refine anI ?_)
  try (refine ⟨dcK, ?_⟩)
  repeat (first | (refine nf1_sound rfl ?_; simp [go_sem, ↓iO, iO, tN]) | refine anI ?_ | refine ⟨dcK, ?_⟩ | ((first | refine iP ?_ | refine iN ?_); try simp [go_sem, ↓iO, iO, tN]))
  first | rw [RetQ_ret] | rw [RetQ_normal]
  refine ⟨[], ?_⟩
  simp [go_sem, ↓iO, iO, tN]
theorem cks_idx (l : List (List Nat)) (hlen : l.length ≤ 1000000) (hall : ∀ p ∈ l, FnOk Tryz.prog 58 [.t (encS p)] [] (.t (.bool false)) []) : FnOk Tryz.prog 81 [.t (.sl 1 (l.map encS)), .fn 58 []] [] (.t (.int (-1))) [] := by
  refine FnOk.intro fact_mixed Tryz.func81 rfl Tryz.ntmps81 (by rfl) (by simp) ?_
  repeat (first | (refine nf1_sound rfl ?_; simp [go_sem, ↓iO, iO, tN]) | refine anI ?_ | refine ⟨dcK, ?_⟩ | ((first | refine iP ?_ | refine iN ?_); try simp [go_sem, ↓iO, iO, tN]))
  refine nf1_sound' _ _ _ ?_; simp only [nf1]
  refine CW.loop (ι := Nat) (fun k => ⟨[(0, .t (.sl 1 (l.map encS))), (1, .fn 58 []), (7, .t (.int l.length)), (8, .t (.int k))], []⟩) (fun k => k ≤ l.length) (fun k => l.length - k) 0 [] (by omega) ?_ ?_
  · simp [go_sem, ↓iO, iO, tN]
  intro k hk
  by_cases hb : k < l.length
  · obtain ⟨p, hp⟩ := has_get hb
    have hu := hall p (mem_get hp)
    repeat (first | (refine nf1_sound rfl ?_; simp [go_sem, ↓iO, iO, tN, hp]) | refine anI ?_ | refine ⟨dcK, ?_⟩ | ((first | refine iP ?_ | refine iN ?_); try simp [go_sem, ↓iO, iO, tN, hp]))
    refine CallK.fn (hu) [] [] [] (by kernel_rfl) ?_ ?_ ?_ (Or.inl rfl) ?_ <;> simp [go_sem, ↓iO, iO, tN]
    repeat (refine anI ?_)
    try (refine ⟨dcK, ?_⟩)
    repeat (first | (refine nf1_sound rfl ?_; simp [go_sem, ↓iO, iO, tN]) | refine anI ?_ | refine ⟨dcK, ?_⟩ | ((first | refine iP ?_ | refine iN ?_); try simp [go_sem, ↓iO, iO, tN]))
    rw [RoundQ_normal]; refine ⟨k + 1, [], ?_, ?_, ?_⟩
    · omega
    · omega
    simp [go_sem, ↓iO, iO, tN]
  · obtain rfl : k = l.length := by omega
    repeat (first | (refine nf1_sound rfl ?_; simp [go_sem, ↓iO, iO, tN]) | refine anI ?_ | refine ⟨dcK, ?_⟩ | ((first | refine iP ?_ | refine iN ?_); try simp [go_sem, ↓iO, iO, tN]))
    first | rw [RetQ_ret] | rw [RetQ_normal]
    refine ⟨[], ?_⟩
    simp [go_sem, ↓iO, iO, tN]
theorem cks_cont (l : List (List Nat)) (hlen : l.length ≤ 1000000) (hall : ∀ p ∈ l, FnOk Tryz.prog 58 [.t (encS p)] [] (.t (.bool false)) []) : FnOk Tryz.prog 57 [.t (.sl 1 (l.map encS)), .fn 58 []] [] (.t (.bool false)) [] := by
  refine FnOk.intro fact_mixed Tryz.func57 rfl Tryz.ntmps57 (by rfl) (by simp) ?_
  repeat (first | (refine nf1_sound rfl ?_; simp [go_sem, ↓iO, iO, tN]) | refine anI ?_ | refine ⟨dcK, ?_⟩ | ((first | refine iP ?_ | refine iN ?_); try simp [go_sem, ↓iO, iO, tN]))
  refine CallK.fn (cks_idx l hlen hall) [] [] [] (by kernel_rfl) ?_ ?_ ?_ (Or.inl rfl) ?_ <;> simp [go_sem, ↓iO, iO, tN]
  repeat (refine anI ?_)
  try (refine ⟨dcK, ?_⟩)
  repeat (first | (refine nf1_sound rfl ?_; simp [go_sem, ↓iO, iO, tN]) | refine anI ?_ | refine ⟨dcK, ?_⟩ | ((first | refine iP ?_ | refine iN ?_); try simp [go_sem, ↓iO, iO, tN]))
  first | rw [RetQ_ret] | rw [RetQ_normal]
  refine ⟨[], ?_⟩
  simp [go_sem, ↓iO, iO, tN]
theorem pr2_idx (l : List (Prt)) (hlen : l.length ≤ 1000000) (hall : ∀ p ∈ l, FnOk Tryz.prog 90 [.t (encPr p)] [] (.t (.bool false)) []) : FnOk Tryz.prog 121 [.t (.sl 3 (l.map encPr)), .fn 90 []] [] (.t (.int (-1))) [] := by
  refine FnOk.intro fact_mixed Tryz.func121 rfl Tryz.ntmps121 (by rfl) (by simp) ?_
  repeat (first | (refine nf1_sound rfl ?_; simp [go_sem, ↓iO, iO, tN]) | refine anI ?_ | refine ⟨dcK, ?_⟩ | ((first | refine iP ?_ | refine iN ?_); try simp [go_sem, ↓iO, iO, tN]))
  refine nf1_sound' _ _ _ ?_; simp only [nf1]
  refine CW.loop (ι := Nat) (fun k => ⟨[(0, .t (.sl 3 (l.map encPr))), (1, .fn 90 []), (7, .t (.int l.length)), (8, .t (.int k))], []⟩) (fun k => k ≤ l.length) (fun k => l.length - k) 0 [] (by omega) ?_ ?_
  · simp [go_sem, ↓iO, iO, tN]
  intro k hk
  by_cases hb : k < l.length
  · obtain ⟨p, hp⟩ := has_get hb
    have hu := hall p (mem_get hp)
    repeat (first | (refine nf1_sound rfl ?_; simp [go_sem, ↓iO, iO, tN, hp]) | refine anI ?_ | refine ⟨dcK, ?_⟩ | ((first | refine iP ?_ | refine iN ?_); try simp [go_sem, ↓iO, iO, tN, hp]))
    refine CallK.fn (hu) [] [] [] (by kernel_rfl) ?_ ?_ ?_ (Or.inl rfl) ?_ <;> simp [go_sem, ↓iO, iO, tN]
    repeat (refine anI ?_)
    try (refine ⟨dcK, ?_⟩)
    repeat (first | (refine nf1_sound rfl ?_; simp [go_sem, ↓iO, iO, tN]) | refine anI ?_ | refine ⟨dcK, ?_⟩ | ((first | refine iP ?_ | refine iN ?_); try simp [go_sem, ↓iO, iO, tN]))
    rw [RoundQ_normal]; refine ⟨k + 1, [], ?_, ?_, ?_⟩
    · omega
    · omega
    simp [go_sem, ↓iO, iO, tN]
  · obtain rfl : k = l.length := by omega
    repeat (first | (refine nf1_sound rfl ?_; simp [go_sem, ↓iO, iO, tN]) | refine anI ?_ | refine ⟨dcK, ?_⟩ | ((first | refine iP ?_ | refine iN ?_); try simp [go_sem, ↓iO, iO, tN]))
    first | rw [RetQ_ret] | rw [RetQ_normal]
    refine ⟨[], ?_⟩
    simp [go_sem, ↓iO, iO, tN]
theorem pr2_cont (l : List (Prt)) (hlen : l.length ≤ 1000000) (hall : ∀ p ∈ l, FnOk Tryz.prog 90 [.t (encPr p)] [] (.t (.bool false)) []) : FnOk Tryz.prog 89 [.t (.sl 3 (l.map encPr)), .fn 90 []] [] (.t (.bool false)) [] := by
  refine FnOk.intro fact_mixed Tryz.func89 rfl Tryz.ntmps89 (by rfl) (by simp) ?_
  repeat (first | (refine nf1_sound rfl ?_; simp [go_sem, ↓iO, iO, tN]) | refine anI ?_ | refine ⟨dcK, ?_⟩ | ((first | refine iP ?_ | refine iN ?_); try simp [go_sem, ↓iO, iO, tN]))
  refine CallK.fn (pr2_idx l hlen hall) [] [] [] (by kernel_rfl) ?_ ?_ ?_ (Or.inl rfl) ?_ <;> simp [go_sem, ↓iO, iO, tN]
  repeat (refine anI ?_)
  try (refine ⟨dcK, ?_⟩)
  repeat (first | (refine nf1_sound rfl ?_; simp [go_sem, ↓iO, iO, tN]) | refine anI ?_ | refine ⟨dcK, ?_⟩ | ((first | refine iP ?_ | refine iN ?_); try simp [go_sem, ↓iO, iO, tN]))
  first | rw [RetQ_ret] | rw [RetQ_normal]
  refine ⟨[], ?_⟩
  simp [go_sem, ↓iO, iO, tN]
theorem pr3_idx (l : List (Stn)) (hlen : l.length ≤ 1000000) (hall : ∀ p ∈ l, FnOk Tryz.prog 93 [.t (encSn p)] [] (.t (.bool false)) []) : FnOk Tryz.prog 84 [.t (.sl 5 (l.map encSn)), .fn 93 []] [] (.t (.int (-1))) [] := by
  refine FnOk.intro fact_mixed Tryz.func84 rfl Tryz.ntmps84 (by rfl) (by simp) ?_
  repeat (first | (refine nf1_sound rfl ?_; simp [go_sem, ↓iO, iO, tN]) | refine anI ?_ | refine ⟨dcK, ?_⟩ | ((first | refine iP ?_ | refine iN ?_); try simp [go_sem, ↓iO, iO, tN]))
  refine nf1_sound' _ _ _ ?_; simp only [nf1]
  refine CW.loop (ι := Nat) (fun k => ⟨[(0, .t (.sl 5 (l.map encSn))), (1, .fn 93 []), (7, .t (.int l.length)), (8, .t (.int k))], []⟩) (fun k => k ≤ l.length) (fun k => l.length - k) 0 [] (by omega) ?_ ?_
  · simp [go_sem, ↓iO, iO, tN]
  intro k hk
  by_cases hb : k < l.length
  · obtain ⟨p, hp⟩ := has_get hb
    have hu := hall p (mem_get hp)
    repeat (first | (refine nf1_sound rfl ?_; simp [go_sem, ↓iO, iO, tN, hp]) | refine anI ?_ | refine ⟨dcK, ?_⟩ | ((first | refine iP ?_ | refine iN ?_); try simp [go_sem, ↓iO, iO, tN, hp]))
    refine CallK.fn (hu) [] [] [] (by kernel_rfl) ?_ ?_ ?_ (Or.inl rfl) ?_ <;> simp [go_sem, ↓iO, iO, tN]
    repeat (refine anI ?_)
    try (refine ⟨dcK, ?_⟩)
    repeat (first | (refine nf1_sound rfl ?_; simp [go_sem, ↓iO, iO, tN]) | refine anI ?_ | refine ⟨dcK, ?_⟩ | ((first | refine iP ?_ | refine iN ?_); try simp [go_sem, ↓iO, iO, tN]))
    rw [RoundQ_normal]; refine ⟨k + 1, [], ?_, ?_, ?_⟩
    · omega
    · omega
    simp [go_sem, ↓iO, iO, tN]
  · obtain rfl : k = l.length := by omega
    repeat (first | (refine nf1_sound rfl ?_; simp [go_sem, ↓iO, iO, tN]) | refine anI ?_ | refine ⟨dcK, ?_⟩ | ((first | refine iP ?_ | refine iN ?_); try simp [go_sem, ↓iO, iO, tN]))
    first | rw [RetQ_ret] | rw [RetQ_normal]
    refine ⟨[], ?_⟩
    simp [go_sem, ↓iO, iO, tN]
theorem pr3_cont (l : List (Stn)) (hlen : l.length ≤ 1000000) (hall : ∀ p ∈ l, FnOk Tryz.prog 93 [.t (encSn p)] [] (.t (.bool false)) []) : FnOk Tryz.prog 92 [.t (.sl 5 (l.map encSn)), .fn 93 []] [] (.t (.bool false)) [] := by
  refine FnOk.intro fact_mixed Tryz.func92 rfl Tryz.ntmps92 (by rfl) (by simp) ?_
  repeat (first | (refine nf1_sound rfl ?_; simp [go_sem, ↓iO, iO, tN]) | refine anI ?_ | refine ⟨dcK, ?_⟩ | ((first | refine iP ?_ | refine iN ?_); try simp [go_sem, ↓iO, iO, tN]))
  refine CallK.fn (pr3_idx l hlen hall) [] [] [] (by kernel_rfl) ?_ ?_ ?_ (Or.inl rfl) ?_ <;> simp [go_sem, ↓iO, iO, tN]
  repeat (refine anI ?_)
  try (refine ⟨dcK, ?_⟩)
  repeat (first | (refine nf1_sound rfl ?_; simp [go_sem, ↓iO, iO, tN]) | refine anI ?_ | refine ⟨dcK, ?_⟩ | ((first | refine iP ?_ | refine iN ?_); try simp [go_sem, ↓iO, iO, tN]))
  first | rw [RetQ_ret] | rw [RetQ_normal]
  refine ⟨[], ?_⟩
  simp [go_sem, ↓iO, iO, tN]
theorem lim1_fn (s : Sgm) (h : 2 ≤ s.2.length ∧ s.2.length ≤ 8) : FnOk Tryz.prog 80 [.t (encSg s)] [] (.t (.bool false)) [] := by
  obtain ⟨h1, h2⟩ := h
  obtain ⟨⟨nm, fr, to, cp, rs, wv⟩, pts⟩ := s
  dsimp only at h1 h2
  refine FnOk.intro fact_mixed Tryz.func80 rfl Tryz.ntmps80 (by rfl) (by simp) ?_
  repeat (first | (refine nf1_sound rfl ?_; simp [go_sem, ↓iO, iO, tN, h1, h2]) | refine anI ?_ | refine ⟨dcK, ?_⟩ | ((first | refine iP ?_ | refine iN ?_); try simp [go_sem, ↓iO, iO, tN, h1, h2]))
  first | rw [RetQ_ret] | rw [RetQ_normal]
  refine ⟨[], ?_⟩
  simp [go_sem, ↓iO, iO, tN, h1, h2]
  omega
theorem pre_ex {α : Type} (l : List α) (f : α → T) : ∃ A : Nat → List T, A 0 = [] ∧ (∀ (k : Nat) x, l[k]? = some x → A (k + 1) = A k ++ [f x]) ∧ (∀ k, k ≤ l.length → (A k).length = k) ∧ A l.length = l.map f := by
  refine ⟨fun k => (l.take k).map f, rfl, fun k x hx => ?_, fun k hk => by simp; omega, by simp⟩
  obtain ⟨hk, e⟩ := List.getElem?_eq_some_iff.1 hx
  show (l.take (k + 1)).map f = (l.take k).map f ++ [f x]
  rw [List.take_succ_eq_append_getElem hk, e]; simp
theorem limits_fn (d : NetD) (h : NetOk d) : FnOk Tryz.prog 55 [.t (.agg d.l)] [] (.t (.bool true)) [] := by
  have h1 := h.n0
  have h2 := h.n1
  have h3 := h.s1
  have h4 := h.p1
  have h5 := h.t1
  have c := lim_cont d.segs (by omega) (fun s hs => lim1_fn s (h.pipe s hs).len)
  refine FnOk.intro fact_mixed Tryz.func55 rfl Tryz.ntmps55 (by rfl) (by simp) ?_
  repeat (first | (refine nf1_sound rfl ?_; simp [go_sem, ↓iO, iO, tN, h1, h2, h3, h4, h5]) | refine anI ?_ | refine ⟨dcK, ?_⟩ | ((first | refine iP ?_ | refine iN ?_); try simp [go_sem, ↓iO, iO, tN, h1, h2, h3, h4, h5]))
  refine CallK.fn (c) [] [] [] (by kernel_rfl) ?_ ?_ ?_ (Or.inl rfl) ?_ <;> simp [go_sem, ↓iO, iO, tN]
  repeat (refine anI ?_)
  try (refine ⟨dcK, ?_⟩)
  repeat (first | (refine nf1_sound rfl ?_; simp [go_sem, ↓iO, iO, tN]) | refine anI ?_ | refine ⟨dcK, ?_⟩ | ((first | refine iP ?_ | refine iN ?_); try simp [go_sem, ↓iO, iO, tN]))
  first | rw [RetQ_ret] | rw [RetQ_normal]
  refine ⟨[], ?_⟩
  simp [go_sem, ↓iO, iO, tN]
theorem names_fn (d : NetD) (h : NetOk d) : FnOk Tryz.prog 56 [.t (.agg d.l)] [] (.t (.agg [.sl 1 (d.nn.map encS), .sl 1 (d.segs.map fun s => encS s.1.nm), .sl 1 (d.ports.map fun p => encS p.1), .sl 1 (d.stns.map fun s => encS s.1)])) [] := by
  have h3 := h.s1
  have h4 := h.p1
  have h5 := h.t1
  obtain ⟨NS, s0, ss, sl, se⟩ := pre_ex d.segs (fun s => encS s.1.nm)
  obtain ⟨NP, p0, ps, pl, pe⟩ := pre_ex d.ports (fun s => encS s.1)
  obtain ⟨NT, t0, ts, tl, te⟩ := pre_ex d.stns (fun s => encS s.1)
  refine FnOk.intro fact_mixed Tryz.func56 rfl Tryz.ntmps56 (by rfl) (by simp) ?_
  repeat (first | (refine nf1_sound rfl ?_; simp [go_sem, ↓iO, iO, tN]) | refine anI ?_ | refine ⟨dcK, ?_⟩ | ((first | refine iP ?_ | refine iN ?_); try simp [go_sem, ↓iO, iO, tN]))
  refine nf1_sound' _ _ _ ?_; simp only [nf1]
  refine CW.loop (ι := Nat) (fun k => ⟨[(1, .pt 501 [] 0), (2, .pt 502 [] 0), (3, .pt 503 [] 0), (14, .t (.sl 7 (d.segs.map encSg))), (15, .t (.int d.segs.length)), (16, .t (.int k))], [(501, .box 33 (.t (.agg d.l))), (502, .box 109 (.t (.agg [.lit (.slice none 0 0), .lit (.slice none 0 0), .lit (.slice none 0 0), .lit (.slice none 0 0)]))), (503, .box 109 (.ag [.t (.sl 1 (d.nn.map encS)), .own 510, .t (.lit (.slice none 0 0)), .t (.lit (.slice none 0 0))])), (510, .list 9 1 (NS k))]⟩)
    (fun k => k ≤ d.segs.length) (fun k => d.segs.length - k) 0 [(501, some 101), (502, some 102), (503, some 103), (510, none)] (by omega) ?_ ?_
  · simp [go_sem, ↓iO, iO, tN, s0]
    simp only [wkXs]
    exact ⟨wkT_refl _, rfl, rfl, rfl, wkT_refl _, rfl, wkT_refl _, rfl, trivial⟩
  intro k hk
  by_cases hb : k < d.segs.length
  · obtain ⟨s, hs⟩ := has_get hb
    have e1 := ss k _ hs
    have e2 := sl k (by omega)
    obtain ⟨⟨nm, fr, to, cp, rs, wv⟩, pts⟩ := s
    dsimp only at e1
    simp only [encS] at e1
    obtain ⟨A, hA⟩ : ∃ A, NS k = A := ⟨_, rfl⟩
    rw [hA] at e1 e2 ⊢
    repeat (first | (refine nf1_sound rfl ?_; simp [go_sem, ↓iO, iO, tN, hs, e2]) | refine anI ?_ | refine ⟨dcK, ?_⟩ | ((first | refine iP ?_ | refine iN ?_); try simp [go_sem, ↓iO, iO, tN, hs, e2]))
    rw [RoundQ_normal]; refine ⟨k + 1, [(501, some 501), (502, some 502), (503, some 503), (510, some 125)], ?_, ?_, ?_⟩
    · omega
    · omega
    simp [go_sem, ↓iO, iO, tN, e1]
  · obtain rfl : k = d.segs.length := by omega
    rw [se]
    obtain ⟨AS, hAS⟩ : ∃ A, d.segs.map (fun s => encS s.1.nm) = A := ⟨_, rfl⟩
    rw [hAS]
    repeat (first | (refine nf1_sound rfl ?_; simp [go_sem, ↓iO, iO, tN]) | refine anI ?_ | refine ⟨dcK, ?_⟩ | ((first | refine iP ?_ | refine iN ?_); try simp [go_sem, ↓iO, iO, tN]))
    refine nf1_sound' _ _ _ ?_; simp only [nf1]
    refine CW.loop (ι := Nat) (fun k => ⟨[(1, .pt 501 [] 0), (2, .pt 502 [] 0), (3, .pt 503 [] 0), (29, .t (.sl 3 (d.ports.map encPr))), (30, .t (.int d.ports.length)), (31, .t (.int k))], [(501, .box 33 (.t (.agg d.l))), (502, .box 109 (.t (.agg [.lit (.slice none 0 0), .lit (.slice none 0 0), .lit (.slice none 0 0), .lit (.slice none 0 0)]))), (503, .box 109 (.ag [.t (.sl 1 (d.nn.map encS)), .t (.sl 1 AS), .own 511, .t (.lit (.slice none 0 0))])), (511, .list 9 1 (NP k))]⟩)
      (fun k => k ≤ d.ports.length) (fun k => d.ports.length - k) 0 [(501, some 501), (502, some 502), (503, some 503), (511, none)] (by omega) ?_ ?_
    · simp [go_sem, ↓iO, iO, tN, p0]
    intro k hk
    by_cases hb : k < d.ports.length
    · obtain ⟨s, hs⟩ := has_get hb
      have e1 := ps k _ hs
      have e2 := pl k (by omega)
      obtain ⟨nm, nd, pr⟩ := s
      dsimp only at e1
      simp only [encS] at e1
      obtain ⟨A, hA⟩ : ∃ A, NP k = A := ⟨_, rfl⟩
      rw [hA] at e1 e2 ⊢
      repeat (first | (refine nf1_sound rfl ?_; simp [go_sem, ↓iO, iO, tN, hs, e2]) | refine anI ?_ | refine ⟨dcK, ?_⟩ | ((first | refine iP ?_ | refine iN ?_); try simp [go_sem, ↓iO, iO, tN, hs, e2]))
      rw [RoundQ_normal]; refine ⟨k + 1, [(501, some 501), (502, some 502), (503, some 503), (511, some 140)], ?_, ?_, ?_⟩
      · omega
      · omega
      simp [go_sem, ↓iO, iO, tN, e1]
    · obtain rfl : k = d.ports.length := by omega
      rw [pe]
      obtain ⟨AP, hAP⟩ : ∃ A, d.ports.map (fun s => encS s.1) = A := ⟨_, rfl⟩
      rw [hAP]
      repeat (first | (refine nf1_sound rfl ?_; simp [go_sem, ↓iO, iO, tN]) | refine anI ?_ | refine ⟨dcK, ?_⟩ | ((first | refine iP ?_ | refine iN ?_); try simp [go_sem, ↓iO, iO, tN]))
      refine nf1_sound' _ _ _ ?_; simp only [nf1]
      refine CW.loop (ι := Nat) (fun k => ⟨[(1, .pt 501 [] 0), (2, .pt 502 [] 0), (3, .pt 503 [] 0), (44, .t (.sl 5 (d.stns.map encSn))), (45, .t (.int d.stns.length)), (46, .t (.int k))], [(501, .box 33 (.t (.agg d.l))), (502, .box 109 (.t (.agg [.lit (.slice none 0 0), .lit (.slice none 0 0), .lit (.slice none 0 0), .lit (.slice none 0 0)]))), (503, .box 109 (.ag [.t (.sl 1 (d.nn.map encS)), .t (.sl 1 AS), .t (.sl 1 AP), .own 512])), (512, .list 9 1 (NT k))]⟩)
        (fun k => k ≤ d.stns.length) (fun k => d.stns.length - k) 0 [(501, some 501), (502, some 502), (503, some 503), (512, none)] (by omega) ?_ ?_
      · simp [go_sem, ↓iO, iO, tN, t0]
      intro k hk
      by_cases hb : k < d.stns.length
      · obtain ⟨s, hs⟩ := has_get hb
        have e1 := ts k _ hs
        have e2 := tl k (by omega)
        obtain ⟨nm, nd, hd1, fl, su⟩ := s
        dsimp only at e1
        simp only [encS] at e1
        obtain ⟨A, hA⟩ : ∃ A, NT k = A := ⟨_, rfl⟩
        rw [hA] at e1 e2 ⊢
        repeat (first | (refine nf1_sound rfl ?_; simp [go_sem, ↓iO, iO, tN, hs, e2]) | refine anI ?_ | refine ⟨dcK, ?_⟩ | ((first | refine iP ?_ | refine iN ?_); try simp [go_sem, ↓iO, iO, tN, hs, e2]))
        rw [RoundQ_normal]; refine ⟨k + 1, [(501, some 501), (502, some 502), (503, some 503), (512, some 155)], ?_, ?_, ?_⟩
        · omega
        · omega
        simp [go_sem, ↓iO, iO, tN, e1]
      · obtain rfl : k = d.stns.length := by omega
        rw [te]
        obtain ⟨AT, hAT⟩ : ∃ A, d.stns.map (fun s => encS s.1) = A := ⟨_, rfl⟩
        rw [hAT]
        repeat (first | (refine nf1_sound rfl ?_; simp [go_sem, ↓iO, iO, tN]) | refine anI ?_ | refine ⟨dcK, ?_⟩ | ((first | refine iP ?_ | refine iN ?_); try simp [go_sem, ↓iO, iO, tN]))
        first | rw [RetQ_ret] | rw [RetQ_normal]
        refine ⟨[], ?_⟩
        simp [go_sem, ↓iO, iO, tN, hAS, hAP, hAT]
        exact ⟨hAS.symm, hAP.symm, hAT.symm⟩
end Go.Proofs.YtdjmklobfjigoaaGreatDoor
