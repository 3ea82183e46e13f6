/- Provers: what the functions compute. Plain Lean. -/
import Derived.Test.YtlogekdicmiciaaRHalf
namespace Go.Proofs.Ytlogekdicmiciaa.Pv
set_option linter.unusedVariables false
def minL : List Int → Int
  | [] => 0
  | x :: r => r.foldl min x
def maxL : List Int → Int
  | [] => 0
  | x :: r => r.foldl max x
def sumL : List Int → Int
  | [] => 0
  | x :: r => x + sumL r
theorem sumL_app (a b : List Int) : sumL (a ++ b) = sumL a + sumL b := by
  induction a with
  | nil => simp [sumL]
  | cons x r ih => simp only [List.cons_append, sumL, ih]; omega
theorem fold_min : ∀ (r : List Int) (x : Int), r.foldl min x ≤ x ∧ (∀ y ∈ r, r.foldl min x ≤ y) ∧ (r.foldl min x = x ∨ r.foldl min x ∈ r)
  | [], x => by simp
  | z :: r, x => by
    obtain ⟨h1, h2, h3⟩ := fold_min r (min x z)
    simp only [List.foldl_cons]
    refine ⟨by omega, ?_, ?_⟩
    · intro y hy
      rcases List.mem_cons.1 hy with rfl | hy
      · omega
      · exact h2 y hy
    · rcases h3 with h3 | h3
      · rw [h3]
        rcases Int.le_total x z with h | h
        · left; omega
        · right; rw [show min x z = z by omega]; exact List.mem_cons_self
      · right; exact List.mem_cons_of_mem _ h3
theorem fold_max : ∀ (r : List Int) (x : Int), x ≤ r.foldl max x ∧ (∀ y ∈ r, y ≤ r.foldl max x) ∧ (r.foldl max x = x ∨ r.foldl max x ∈ r)
  | [], x => by simp
  | z :: r, x => by
    obtain ⟨h1, h2, h3⟩ := fold_max r (max x z)
    simp only [List.foldl_cons]
    refine ⟨by omega, ?_, ?_⟩
    · intro y hy
      rcases List.mem_cons.1 hy with rfl | hy
      · omega
      · exact h2 y hy
    · rcases h3 with h3 | h3
      · rw [h3]
        rcases Int.le_total x z with h | h
        · right; rw [show max x z = z by omega]; exact List.mem_cons_self
        · left; omega
      · right; exact List.mem_cons_of_mem _ h3
theorem min_le {l : List Int} {y : Int} (h : y ∈ l) : minL l ≤ y := by
  cases l with
  | nil => cases h
  | cons x r =>
    have := fold_min r x
    rcases List.mem_cons.1 h with rfl | h
    · exact this.1
    · exact this.2.1 y h
theorem le_max {l : List Int} {y : Int} (h : y ∈ l) : y ≤ maxL l := by
  cases l with
  | nil => cases h
  | cons x r =>
    have := fold_max r x
    rcases List.mem_cons.1 h with rfl | h
    · exact this.1
    · exact this.2.1 y h
theorem min_mem {l : List Int} (h : l ≠ []) : minL l ∈ l := by
  cases l with
  | nil => exact absurd rfl h
  | cons x r =>
    rcases (fold_min r x).2.2 with e | e
    · show r.foldl min x ∈ _; rw [e]; exact List.mem_cons_self
    · exact List.mem_cons_of_mem _ e
theorem max_mem {l : List Int} (h : l ≠ []) : maxL l ∈ l := by
  cases l with
  | nil => exact absurd rfl h
  | cons x r =>
    rcases (fold_max r x).2.2 with e | e
    · show r.foldl max x ∈ _; rw [e]; exact List.mem_cons_self
    · exact List.mem_cons_of_mem _ e
theorem min_snoc {l : List Int} {x : Int} (h : l ≠ []) : minL (l ++ [x]) = min (minL l) x := by
  cases l with
  | nil => exact absurd rfl h
  | cons y r => simp [minL]
theorem max_snoc {l : List Int} {x : Int} (h : l ≠ []) : maxL (l ++ [x]) = max (maxL l) x := by
  cases l with
  | nil => exact absurd rfl h
  | cons y r => simp [maxL]
/-- These are runs. -/
def Runs (l : List Int) : Prop := ∀ x ∈ l, 1 ≤ x ∧ x ≤ 1073741824
instance (l : List Int) : Decidable (Runs l) := inferInstanceAs (Decidable (∀ x ∈ l, 1 ≤ x ∧ x ≤ 1073741824))
/-- They repeat. -/
def Rep (t : Int) (l : List Int) : Prop := (maxL l - minL l) * 1000000 ≤ t * minL l
instance (t : Int) (l : List Int) : Decidable (Rep t l) := inferInstanceAs (Decidable ((maxL l - minL l) * 1000000 ≤ t * minL l))
/-- The factor from five runs. -/
def factor (v p : Int) (w : List Int) (i : Nat) : Int × Int × Int :=
  if halfV (5 * v * p * 100) (sumL w) < 50000 ∨ 200000 < halfV (5 * v * p * 100) (sumL w) then (0, 0, 1) else (halfV (5 * v * p * 100) (sumL w), i, 0)
def go (v t p : Int) : Nat → List Int → Int × Int × Int
  | i, [] => (0, 0, 10)
  | i, x :: r => if (x :: r).length < 5 then (0, 0, 10) else if Rep t ((x :: r).take 5) then factor v p ((x :: r).take 5) i else go v t p (i + 1) r
theorem go_short {v t p : Int} {i : Nat} {l : List Int} (h : l.length < 5) : go v t p i l = (0, 0, 10) := by
  cases l with
  | nil => rfl
  | cons x r => simp only [go]; rw [if_pos h]
theorem go_rep {v t p : Int} {i : Nat} {l : List Int} (h : 5 ≤ l.length) (hr : Rep t (l.take 5)) : go v t p i l = factor v p (l.take 5) i := by
  cases l with
  | nil => simp at h
  | cons x r => simp only [go]; rw [if_neg (by omega), if_pos hr]
theorem go_step {v t p : Int} {i : Nat} {l : List Int} (h : 5 ≤ l.length) (hr : ¬ Rep t (l.take 5)) : go v t p i l = go v t p (i + 1) (l.drop 1) := by
  cases l with
  | nil => simp at h
  | cons x r => simp only [go]; rw [if_neg (by omega), if_neg hr]; rfl
def prove (v t p : Int) (l : List Int) : Int × Int × Int := go v t p 0 l
end Go.Proofs.Ytlogekdicmiciaa.Pv
