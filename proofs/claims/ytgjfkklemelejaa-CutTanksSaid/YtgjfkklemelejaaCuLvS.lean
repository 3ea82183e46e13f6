/- What goes into each tank. Plain Lean. -/
import Derived.Test.YtgjfkklemelejaaCuLeave2
import Derived.Test.YtgjfkklemelejaaCuSumP
namespace Go.Proofs.Ytgjfkklemelejaa
open Go.RowKit Sy
set_option linter.unusedVariables false
set_option linter.unusedSimpArgs false
def isT (bs : List Bt) (n : Int) (i : Nat) (x : Po) : Bool := decide (tkI bs n x = (i : Int))
theorem sumP_nonneg {c : Po → Bool} : ∀ {l : List Po}, (∀ x ∈ l, 0 ≤ x.2.1) → 0 ≤ sumP c l
  | [], _ => by simp [sumP]
  | x :: r, h => by
    have h1 := sumP_nonneg (c := c) (l := r) fun y hy => h y (List.mem_cons_of_mem _ hy)
    have h2 := h x List.mem_cons_self
    simp only [sumP]
    split <;> omega
theorem getD_set {l : List Int} {j i : Nat} {a : Int} (hj : j < l.length) : (l.set j a).getD i 0 = if i = j then a else l.getD i 0 := by
  rw [List.getD_eq_getElem?_getD, List.getD_eq_getElem?_getD]
  by_cases h : i = j
  · subst h
    rw [if_pos rfl, List.getElem?_set_self hj]; rfl
  · rw [if_neg h, List.getElem?_set_ne (fun e => h e.symm)]
theorem lv_sum {cap : List Int} {bs : List Bt} {n : Int} : ∀ (l : List Po) (out : List Int), (∀ x ∈ l, 0 ≤ x.2.1 ∧ 0 ≤ tkI bs n x ∧ tkI bs n x < out.length) → (∀ i, i < out.length → out.getD i 0 ≤ cap.getD i 0) →
    (lvGo cap bs n l out = none ∧ ∃ i, i < out.length ∧ cap.getD i 0 < out.getD i 0 + sumP (isT bs n i) l) ∨
    ∃ u, lvGo cap bs n l out = some u ∧ u.length = out.length ∧ ∀ i, i < out.length → u.getD i 0 = out.getD i 0 + sumP (isT bs n i) l ∧ u.getD i 0 ≤ cap.getD i 0
  | [], out, h, hc => .inr ⟨out, rfl, rfl, fun i hi => ⟨by simp [sumP], hc i hi⟩⟩
  | x :: r, out, h, hc => by
    obtain ⟨hv, ht0, ht1⟩ := h x List.mem_cons_self
    have hr := fun y hy => h y (List.mem_cons_of_mem _ hy)
    obtain ⟨j, hj⟩ : ∃ j : Nat, tkI bs n x = (j : Int) := ⟨(tkI bs n x).toNat, by omega⟩
    have hjl : j < out.length := by omega
    obtain ⟨o, ho⟩ := has_get hjl
    have hod : out.getD j 0 = o := by rw [List.getD_eq_getElem?_getD, ho]; rfl
    have hsum : ∀ i : Nat, sumP (isT bs n i) (x :: r) = (if i = j then x.2.1 else 0) + sumP (isT bs n i) r := by
      intro i
      simp only [sumP, isT, hj, decide_eq_true_eq]
      by_cases e : i = j
      · simp [e]
      · rw [if_neg e, if_neg (by omega)]
    have hgo : lvGo cap bs n (x :: r) out = if x.2.1 < 0 ∨ cap.getD j 0 - o < x.2.1 then none else lvGo cap bs n r (out.set j (o + x.2.1)) := by
      simp only [lvGo, hj, Int.toNat_natCast, hod]
    by_cases hfit : cap.getD j 0 - o < x.2.1
    · refine .inl ⟨by rw [hgo, if_pos (.inr hfit)], j, hjl, ?_⟩
      have := sumP_nonneg (c := isT bs n j) (l := r) fun y hy => (hr y hy).1
      rw [hsum, hod, if_pos rfl]
      omega
    · rw [hgo, if_neg (by omega)]
      have hset := fun i => getD_set (l := out) (j := j) (i := i) (a := o + x.2.1) hjl
      have hadd : ∀ i, (out.set j (o + x.2.1)).getD i 0 + sumP (isT bs n i) r = out.getD i 0 + sumP (isT bs n i) (x :: r) := by
        intro i
        rw [hset, hsum]
        by_cases e : i = j
        · subst e; rw [if_pos rfl, if_pos rfl, hod]; omega
        · rw [if_neg e, if_neg e]; omega
      rcases lv_sum (cap := cap) r (out.set j (o + x.2.1)) (by rw [List.length_set]; exact hr) (by
        intro i hi
        rw [List.length_set] at hi
        rw [hset]
        split
        · rename_i e; subst e; omega
        · exact hc i hi) with ⟨h1, i, h2, h3⟩ | ⟨u, h1, h2, h3⟩
      · rw [List.length_set] at h2
        rw [hadd] at h3
        exact .inl ⟨h1, i, h2, h3⟩
      · rw [List.length_set] at h2
        refine .inr ⟨u, h1, h2, fun i hi => ?_⟩
        have := h3 i (by rw [List.length_set]; exact hi)
        rw [hadd] at this
        exact this
/-- All that is received is in some tank. -/
theorem tank_total {bs : List Bt} : ∀ {l : List Po}, (∀ x ∈ l, 0 ≤ tkI bs 3 x ∧ tkI bs 3 x ≤ 3) → sumP (isT bs 3 0) l + sumP (isT bs 3 1) l + sumP (isT bs 3 2) l + sumP (isT bs 3 3) l = sumP (fun _ => true) l
  | [], _ => rfl
  | x :: r, h => by
    have ih := tank_total (bs := bs) (l := r) fun y hy => h y (List.mem_cons_of_mem _ hy)
    have ht := h x List.mem_cons_self
    simp only [sumP, isT, decide_eq_true_eq]
    obtain ⟨t, he⟩ : ∃ t, tkI bs 3 x = t := ⟨_, rfl⟩
    rw [he] at ht ⊢
    have : t = 0 ∨ t = 1 ∨ t = 2 ∨ t = 3 := by omega
    rcases this with rfl | rfl | rfl | rfl <;> simp [isT] at ih ⊢ <;> omega
theorem sums_total {f : List (Int × Int)} {ss : List Int} (hf : Pc.Vd f) (hs : ∀ s ∈ ss, 0 ≤ s ∧ s ≤ 1000000) : ∀ n, n ≤ f.length → sumP (fun _ => true) (poL f ss n) = Pc.vol (f.take n)
  | 0, _ => by simp [poL_zero, sumP, Pc.vol]
  | n + 1, hn => by
    obtain ⟨c, v, h⟩ := piece_ok (ss := ss) hf hs (show n < f.length by omega)
    have ih := sums_total hf hs n (by omega)
    rw [poL_succ, sumP_app, Pc.vol_snoc h.get, sumP_at h (fun _ => true) (by intros; rfl)]
    simp
    omega
theorem tk_slop {bs : List Bt} {x : Po} {n : Int} : tkI bs n x = if x.2.2 then n else ((bs[x.1.toNat]?).getD (0, default)).1 := by
  unfold tkI tkV
  split <;> rfl
end Go.Proofs.Ytgjfkklemelejaa
