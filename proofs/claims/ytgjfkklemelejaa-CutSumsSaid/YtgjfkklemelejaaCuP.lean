/- The portions of what is received. Plain Lean. -/
import Derived.Test.YtgjfkklemelejaaCuA
import Derived.Test.YtgjfkklemelejaaPiRMerge
namespace Go.Proofs.Ytgjfkklemelejaa
open Go.RowKit Sy
set_option linter.unusedVariables false
set_option linter.unusedSimpArgs false
/-- The slop that a way leaves, and what is wrong with it. -/
def slopAt (f r t : Int) : Int × Int := if (mixV f t).2 ≠ 0 then (0, (mixV f t).2) else ((cutV (mixV f t).1 r).2.2.1, (cutV (mixV f t).1 r).2.2.2)
theorem cutV_range (v r : Int) : 0 ≤ (cutV v r).2.2.1 ∧ (cutV v r).2.2.1 ≤ 1000000 := by
  unfold cutV
  split
  · split
    · simp
    · split
      · simp
      · split
        · simp
        · split
          · dsimp only; omega
          · split
            · dsimp only; omega
            · simp
  · simp
theorem slopAt_range (f r t : Int) : 0 ≤ (slopAt f r t).1 ∧ (slopAt f r t).1 ≤ 1000000 := by
  unfold slopAt
  split
  · simp
  · exact cutV_range _ _
def errGo (g : Int → Int × Int) : List Int → Int
  | [] => 0
  | t :: r => if (g t).2 ≠ 0 then (g t).2 else errGo g r
theorem err_cases (g : Int → Int × Int) : ∀ l : List Int, (errGo g l = 0 ∧ ∀ t ∈ l, (g t).2 = 0) ∨ ∃ (j : Nat) (t : Int), l[j]? = some t ∧ (∀ s ∈ l.take j, (g s).2 = 0) ∧ (g t).2 ≠ 0 ∧ errGo g l = (g t).2
  | [] => .inl ⟨rfl, by simp⟩
  | t :: r => by
    by_cases h : (g t).2 = 0
    · rcases err_cases g r with ⟨h1, h2⟩ | ⟨j, x, h1, h2, h3, h4⟩
      · refine .inl ⟨by simp [errGo, h, h1], ?_⟩
        intro y hy
        rcases List.mem_cons.1 hy with rfl | hy
        · exact h
        · exact h2 y hy
      · refine .inr ⟨j + 1, x, by simpa using h1, ?_, h3, by simp [errGo, h, h4]⟩
        intro y hy
        rw [List.take_succ_cons] at hy
        rcases List.mem_cons.1 hy with rfl | hy
        · exact h
        · exact h2 y hy
    · exact .inr ⟨0, t, rfl, by simp, h, by simp [errGo, h]⟩
def vAt (f : List (Int × Int)) (i : Nat) : Int := ((f[i]?).getD (0, 0)).2
def sAt (ss : List Int) (i : Nat) : Int := ss.getD i 0
/-- The slop ahead of a piece, and behind it. -/
def bg (f : List (Int × Int)) (ss : List Int) (i : Nat) : Int := if i = 0 then 0 else min (sAt ss (i - 1) - sAt ss (i - 1) / 2) (vAt f i)
def en (f : List (Int × Int)) (ss : List Int) (i : Nat) : Int := if i < ss.length then min (sAt ss i / 2) (vAt f i - bg f ss i) else 0
abbrev Po := Int × Int × Bool
def pos (b v : Int) (s : Bool) : List Po := if 0 < v then [(b, v, s)] else []
def poAt (f : List (Int × Int)) (ss : List Int) (i : Nat) : List Po :=
  pos ((f[i]?).getD (0, 0)).1 (bg f ss i) true ++ (pos ((f[i]?).getD (0, 0)).1 (vAt f i - bg f ss i - en f ss i) false ++ pos ((f[i]?).getD (0, 0)).1 (en f ss i) true)
def poL (f : List (Int × Int)) (ss : List Int) (n : Nat) : List Po := (List.range n).flatMap (poAt f ss)
theorem poL_zero (f : List (Int × Int)) (ss : List Int) : poL f ss 0 = [] := rfl
theorem poL_succ (f : List (Int × Int)) (ss : List Int) (n : Nat) : poL f ss (n + 1) = poL f ss n ++ poAt f ss n := by
  unfold poL; rw [List.range_succ, List.flatMap_append]; simp
theorem pos_len (b v : Int) (s : Bool) : (pos b v s).length ≤ 1 := by unfold pos; split <;> simp
theorem poL_len (f : List (Int × Int)) (ss : List Int) : ∀ n, (poL f ss n).length ≤ 3 * n
  | 0 => by simp [poL_zero]
  | n + 1 => by
    rw [poL_succ, List.length_append]
    have := poL_len f ss n
    unfold poAt
    have h1 := pos_len ((f[n]?).getD (0, 0)).1 (bg f ss n) true
    have h2 := pos_len ((f[n]?).getD (0, 0)).1 (vAt f n - bg f ss n - en f ss n) false
    have h3 := pos_len ((f[n]?).getD (0, 0)).1 (en f ss n) true
    simp only [List.length_append]
    omega
theorem bg_en_range {f : List (Int × Int)} {ss : List Int} (hs : ∀ s ∈ ss, 0 ≤ s ∧ s ≤ 1000000) {i : Nat} (hv : 0 ≤ vAt f i) : 0 ≤ bg f ss i ∧ bg f ss i ≤ vAt f i ∧ 0 ≤ en f ss i ∧ en f ss i ≤ vAt f i - bg f ss i := by
  have hsa : ∀ j, 0 ≤ sAt ss j ∧ sAt ss j ≤ 1000000 := by
    intro j
    unfold sAt
    rw [List.getD_eq_getElem?_getD]
    cases h : ss[j]? with
    | none => simp
    | some x => exact hs x (mem_get h)
  have h1 := hsa (i - 1)
  have h2 := hsa i
  have hb : 0 ≤ bg f ss i ∧ bg f ss i ≤ vAt f i := by unfold bg; split <;> omega
  refine ⟨hb.1, hb.2, ?_⟩
  unfold en
  split <;> omega
/-- What Portions answers. -/
noncomputable def portR (l : List (Int × Int)) (t : List Int) (f r : Int) : List Po × Int :=
  if ¬ Pc.valid (Pc.merge l) = true ∨ (0 < l.length ∧ (Pc.merge l).length = 0) then ([], 14)
  else if (t.length : Int) ≠ max 0 (((Pc.merge l).length : Int) - 1) ∨ 400 < (Pc.merge l).length then ([], 9)
  else if errGo (slopAt f r) t ≠ 0 then ([], errGo (slopAt f r) t)
  else (poL (Pc.merge l) (t.map fun x => (slopAt f r x).1) (Pc.merge l).length, 0)
end Go.Proofs.Ytgjfkklemelejaa
