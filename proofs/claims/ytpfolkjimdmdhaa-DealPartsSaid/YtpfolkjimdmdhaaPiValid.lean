/- piece.Valid, Volume, At, Batch; ref.Valid, Volume, At, Batch as contracts. No condition. -/
import Derived.Test.YtpfolkjimdmdhaaPiSum
namespace Go.Proofs.Ytpfolkjimdmdhaa
open Go.RowKit Sy
set_option linter.unusedVariables false
set_option linter.unusedSimpArgs false
theorem litre_fn' (p : Int × Int) (b : Bool) (h : decide (Lit p) = b) : FnOk Try.prog 42 [.t (encP p)] [] (.t (.bool b)) [] := h ▸ litre_fn p
theorem proper_fn' (x : Int) (b : Bool) (h : decide (0 ≤ x ∧ x < 1000) = b) : FnOk Try.prog 38 [.t (.int x)] [] (.t (.bool b)) [] := h ▸ proper_fn x
theorem sane_of_ok {l : List (Int × Int)} (h : l.length ≤ 200) (ho : ∀ i, i < l.length → Pc.OkAt l i) : Pc.Sane l := by
  refine ⟨by omega, fun p hp => ?_⟩
  obtain ⟨i, hi⟩ := List.getElem?_of_mem hp
  have := (ho i (List.getElem?_eq_some_iff.1 hi).1 p hi).1
  omega
theorem ok_snoc {l : List (Int × Int)} {k : Nat} (h : ∀ i, i < k → Pc.OkAt l i) (hk : Pc.OkAt l k) : ∀ i, i < k + 1 → Pc.OkAt l i := fun i hi => by
  rcases Nat.lt_or_ge i k with h1 | h1
  · exact h i h1
  · obtain rfl : i = k := by omega
    exact hk
theorem ok_take {l : List (Int × Int)} {k : Nat} (hl : l.length ≤ 200) (h : ∀ i, i < k → Pc.OkAt l i) : Pc.Sane (l.take k) := by
  refine ⟨by rw [List.length_take]; omega, fun p hp => ?_⟩
  obtain ⟨i, hi⟩ := List.getElem?_of_mem hp
  rw [List.getElem?_take] at hi
  split at hi
  · rename_i hik
    have := (h i hik p hi).1
    omega
  · cases hi
end Go.Proofs.Ytpfolkjimdmdhaa
