/- keep.Pick as a contract; steps done again and again. No condition. -/
import Derived.Test.YtopmmodcaoaaeaaKIntB
namespace Go.Proofs.Ytopmmodcaoaaeaa
open Go.RowKit Sy
open Go.IntWalk renaming iteOmega → iO, toNatUp → tN
set_option linter.unusedVariables false
set_option linter.unusedSimpArgs false
theorem n_ex {l : List Int} {k : Nat} (h : SrcOk l k) (n : Int) (h1 : 1 ≤ n) (h2 : n ≤ 9223372036854775807) : ∃ v, (0 ≤ v ∧ v < n) ∧ FnOk Try.prog 11 [.pt 0 [] 0, .t (.int n)] [(0, srcB l k)] (.t (.int v)) [(0, srcB l (nextK l k))] :=
  ⟨_, nV_range h1, n_fn l k n h h2⟩
def pickV (l : List Int) (k : Nat) (xs : List Int) : Int := xs.getD (nV l k xs.length).toNat 0
theorem pickV_mem {l : List Int} {k : Nat} {xs : List Int} (h : 1 ≤ xs.length) : pickV l k xs ∈ xs := by
  have h1 := nV_range (l := l) (k := k) (n := xs.length) (by omega)
  obtain ⟨v, hv⟩ := has_get (show (nV l k xs.length).toNat < xs.length by omega)
  unfold pickV
  rw [List.getD_eq_getElem?_getD, hv]
  exact mem_get hv
set_option maxRecDepth 100000 in
theorem pick_fn {l : List Int} {k : Nat} (h : SrcOk l k) (xs : List Int) (h1 : 1 ≤ xs.length) (h2 : xs.length ≤ 1000000) :
    FnOk Try.prog 36 [.pt 0 [] 0, .t (encIs xs)] [(0, srcB l k)] (.t (.int (pickV l k xs))) [(0, srcB l (nextK l k))] := by
  have hn := nV_range (l := l) (k := k) (n := xs.length) (by omega)
  have hc := n_fn l k xs.length h (by omega)
  have hp : pickV l k xs = xs.getD (nV l k xs.length).toNat 0 := rfl
  obtain ⟨n, hnn⟩ : ∃ n, nV l k xs.length = n := ⟨_, rfl⟩
  rw [hnn] at hn hc hp
  obtain ⟨m, rfl⟩ : ∃ m : Nat, n = (m : Int) := ⟨n.toNat, by omega⟩
  obtain ⟨v, hv⟩ := has_get (show m < xs.length by omega)
  rw [Int.toNat_natCast, List.getD_eq_getElem?_getD, hv] at hp
  rw [hp]
  refine FnOk.intro fact_mixed Try.func36 rfl Try.ntmps36 (by rfl) (by simp) ?_
  repeat (first | (refine nf1_sound rfl ?_; simp [go_sem, ↓iO, iO, tN]; (repeat (refine anI ?_)); try (refine ⟨dcK, ?_⟩)) | ((first | refine itePos (by omega) ?_ | refine iteNeg (by omega) ?_); try simp [go_sem, ↓iO, iO, tN]) | (refine ⟨dcK, ?_⟩))
  refine CallK.fn (hc) [(0, 0)] [] [] (by kernel_rfl) ?_ ?_ ?_ (Or.inl rfl) ?_ <;> simp [go_sem, ↓iO, iO, tN, hv]
  repeat (refine anI ?_)
  try (refine ⟨dcK, ?_⟩)
  repeat (first | (refine nf1_sound rfl ?_; simp [go_sem, ↓iO, iO, tN, hv]; (repeat (refine anI ?_)); try (refine ⟨dcK, ?_⟩)) | ((first | refine itePos (by omega) ?_ | refine iteNeg (by omega) ?_); try simp [go_sem, ↓iO, iO, tN, hv]) | (refine ⟨dcK, ?_⟩))
  first | rw [RetQ_ret] | rw [RetQ_normal]
  refine ⟨[(0, some 0)], ?_⟩
  simp [go_sem, ↓iO, iO, tN]
theorem pick_ex {l : List Int} {k : Nat} (h : SrcOk l k) (xs : List Int) (h1 : 1 ≤ xs.length) (h2 : xs.length ≤ 1000000) :
    ∃ v, v ∈ xs ∧ FnOk Try.prog 36 [.pt 0 [] 0, .t (encIs xs)] [(0, srcB l k)] (.t (.int v)) [(0, srcB l (nextK l k))] :=
  ⟨_, pickV_mem h1, pick_fn h xs h1 h2⟩
/-- A step done j times. -/
def iter {α : Type} (f : α → α) : Nat → α → α
  | 0, s => s
  | j + 1, s => f (iter f j s)
theorem iter_succ {α : Type} (f : α → α) (j : Nat) (s : α) : iter f (j + 1) s = f (iter f j s) := rfl
theorem iter_inv {α : Type} {f : α → α} {s : α} {C : Nat → α → Prop} (h0 : C 0 s) (hs : ∀ j t, C j t → C (j + 1) (f t)) : ∀ j, C j (iter f j s)
  | 0 => h0
  | j + 1 => hs j _ (iter_inv h0 hs j)
theorem iter_inv_lt {α : Type} {f : α → α} {s : α} {C : Nat → α → Prop} (n : Nat) (h0 : C 0 s) (hs : ∀ j t, j < n → C j t → C (j + 1) (f t)) : ∀ j, j ≤ n → C j (iter f j s)
  | 0, _ => h0
  | j + 1, hj => hs j _ (by omega) (iter_inv_lt n h0 hs j (by omega))
end Go.Proofs.Ytopmmodcaoaaeaa
