/- The reader of numbers that the laws use, as contracts: Raw, N, New. No condition. -/
import Derived.Test.YtopmmodcaoaaeaaKMod
namespace Go.Proofs.Ytopmmodcaoaaeaa
open Go.RowKit Sy
open Go.IntWalk renaming iteOmega → iO, toNatUp → tN
set_option linter.unusedVariables false
set_option linter.unusedSimpArgs false

@[go_sem] def encI (n : Int) : T := .int n
/-- A list of ints. -/
@[go_sem] def encIs (l : List Int) : T := .sl 1 (l.map encI)
/-- The reader has read k numbers of l. -/
@[go_sem] def srcC (l : List Int) (k : Nat) : S := .t (.agg [encIs l, .int k])
@[go_sem] def srcB (l : List Int) (k : Nat) : Blk := .box 64 (srcC l k)
/-- What a reader is. -/
structure SrcOk (l : List Int) (k : Nat) : Prop where
  len : l.length ≤ 2000
  le : k ≤ l.length
  wf : ∀ z ∈ l, -9223372036854775808 ≤ z ∧ z ≤ 9223372036854775807
def rawV (l : List Int) (k : Nat) : Int := l.getD k 0
def nextK (l : List Int) (k : Nat) : Nat := if k < l.length then k + 1 else k
theorem SrcOk.next {l : List Int} {k : Nat} (h : SrcOk l k) : SrcOk l (nextK l k) := by
  refine ⟨h.len, ?_, h.wf⟩
  have := h.le
  unfold nextK; split <;> omega
theorem SrcOk.raw {l : List Int} {k : Nat} (h : SrcOk l k) : -9223372036854775808 ≤ rawV l k ∧ rawV l k ≤ 9223372036854775807 := by
  unfold rawV
  rw [List.getD_eq_getElem?_getD]
  cases hz : l[k]? with
  | none => simp
  | some z => exact h.wf z (List.mem_of_getElem? hz)

set_option maxRecDepth 100000 in
theorem raw_fn (l : List Int) (k : Nat) (h : SrcOk l k) : FnOk Try.prog 32 [.pt 0 [] 0] [(0, srcB l k)] (.t (.int (rawV l k))) [(0, srcB l (nextK l k))] := by
  have h1 := h.len
  have h2 := h.le
  refine FnOk.intro fact_mixed Try.func32 rfl Try.ntmps32 (by rfl) (by simp) ?_
  by_cases hk : k < l.length
  · obtain ⟨z, hz⟩ := has_get hk
    have R : rawV l k = z := by unfold rawV; simp [List.getD, hz]
    have R2 : nextK l k = k + 1 := by unfold nextK; rw [if_pos hk]
    repeat (first | (refine nf1_sound rfl ?_; simp [go_sem, ↓iO, iO, tN, R, R2, hz]; (repeat (refine anI ?_)); try (refine ⟨dcK, ?_⟩)) | ((first | refine itePos (by omega) ?_ | refine iteNeg (by omega) ?_); try simp [go_sem, ↓iO, iO, tN, R, R2, hz]) | (refine ⟨dcK, ?_⟩))
    first | rw [RetQ_ret] | rw [RetQ_normal]
    refine ⟨[(0, some 0)], ?_⟩
    simp [go_sem, ↓iO, iO, tN]
  · have R : rawV l k = 0 := by unfold rawV; simp [List.getD, List.getElem?_eq_none (show l.length ≤ k by omega)]
    have R2 : nextK l k = k := by unfold nextK; rw [if_neg hk]
    repeat (first | (refine nf1_sound rfl ?_; simp [go_sem, ↓iO, iO, tN, R, R2]; (repeat (refine anI ?_)); try (refine ⟨dcK, ?_⟩)) | ((first | refine itePos (by omega) ?_ | refine iteNeg (by omega) ?_); try simp [go_sem, ↓iO, iO, tN, R, R2]) | (refine ⟨dcK, ?_⟩))
    first | rw [RetQ_ret] | rw [RetQ_normal]
    refine ⟨[(0, some 0)], ?_⟩
    simp [go_sem, ↓iO, iO, tN]
/-- N's answer. -/
def nV (l : List Int) (k : Nat) (n : Int) : Int := modN (rawV l k) n
theorem nV_range {l : List Int} {k : Nat} {n : Int} (h : 1 ≤ n) : 0 ≤ nV l k n ∧ nV l k n < n := modN_range h
set_option maxRecDepth 100000 in
theorem n_fn (l : List Int) (k : Nat) (n : Int) (h : SrcOk l k) (hn : n ≤ 9223372036854775807) : FnOk Try.prog 11 [.pt 0 [] 0, .t (.int n)] [(0, srcB l k)] (.t (.int (nV l k n))) [(0, srcB l (nextK l k))] := by
  refine FnOk.intro fact_mixed Try.func11 rfl Try.ntmps11 (by rfl) (by simp) ?_
  repeat (first | (refine nf1_sound rfl ?_; simp [go_sem, ↓iO, iO, tN]; (repeat (refine anI ?_)); try (refine ⟨dcK, ?_⟩)) | ((first | refine itePos (by omega) ?_ | refine iteNeg (by omega) ?_); try simp [go_sem, ↓iO, iO, tN]) | (refine ⟨dcK, ?_⟩))
  refine CallK.fn (raw_fn l k h) [(0, 0)] [] [] (by kernel_rfl) ?_ ?_ ?_ (Or.inl rfl) ?_ <;> simp [go_sem, ↓iO, iO, tN]
  repeat (refine anI ?_)
  try (refine ⟨dcK, ?_⟩)
  refine CallK.fn (mod_fn (rawV l k) n hn) [] [] [] (by kernel_rfl) ?_ ?_ ?_ (Or.inl rfl) ?_ <;> simp [go_sem, ↓iO, iO, tN]
  repeat (refine anI ?_)
  try (refine ⟨dcK, ?_⟩)
  repeat (first | (refine nf1_sound rfl ?_; simp [go_sem, ↓iO, iO, tN]; (repeat (refine anI ?_)); try (refine ⟨dcK, ?_⟩)) | ((first | refine itePos (by omega) ?_ | refine iteNeg (by omega) ?_); try simp [go_sem, ↓iO, iO, tN]) | (refine ⟨dcK, ?_⟩))
  first | rw [RetQ_ret] | rw [RetQ_normal]
  refine ⟨[(0, some 0)], ?_⟩
  simp [go_sem, ↓iO, iO, tN, nV]
def newL2 (l : List Int) : List Int := l.take 2000
set_option maxRecDepth 100000 in
theorem new_fn (l : List Int) (hl : l.length ≤ 9223372036854775807) : FnOk Try.prog 10 [.t (encIs l)] [] (.pt 1000 [] 0) [(1000, srcB (newL2 l) 0)] := by
  have hmin : (min (l.length : Int) 2000).toNat = min l.length 2000 := by omega
  have h0 : 0 ≤ min (l.length : Int) 2000 ∧ min (l.length : Int) 2000 ≤ l.length := by omega
  refine FnOk.intro fact_mixed Try.func10 rfl Try.ntmps10 (by rfl) (by simp) ?_
  repeat (first | (refine nf1_sound rfl ?_; simp [go_sem, ↓iO, iO, tN, hmin, h0.1, h0.2]; (repeat (refine anI ?_)); try (refine ⟨dcK, ?_⟩)) | ((first | refine itePos (by omega) ?_ | refine iteNeg (by omega) ?_); try simp [go_sem, ↓iO, iO, tN, hmin, h0.1, h0.2]) | (refine ⟨dcK, ?_⟩))
  first | rw [RetQ_ret] | rw [RetQ_normal]
  refine ⟨[(1000, some 109)], ?_⟩
  simp [go_sem, ↓iO, iO, tN, newL2]
  omega
theorem new_ok {l : List Int} (wf : ∀ z ∈ l, -9223372036854775808 ≤ z ∧ z ≤ 9223372036854775807) : SrcOk (newL2 l) 0 :=
  ⟨by unfold newL2; simp; omega, Nat.zero_le _, fun z hz => wf z (List.mem_of_mem_take hz)⟩
end Go.Proofs.Ytopmmodcaoaaeaa
