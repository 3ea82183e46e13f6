/- When as many litres as are ahead of a batch have been pushed, it is the next one that leaves. Plain Lean. -/
import Derived.Test.YtchjindkjbpbnaaMovesP
namespace Go.Proofs.Ytchjindkjbpbnaa
set_option linter.unusedVariables false
set_option linter.unusedSimpArgs false
theorem nonneg_part {f pre : List (Int × Int)} (hf : Pc.Vd f) (h : ∀ p ∈ pre, p ∈ f) : ∀ p ∈ pre, 0 ≤ p.2 := fun p hp => hf.nonneg p (h p hp)
theorem none_count {pre : List (Int × Int)} {k : Int} (hne : ∀ p ∈ pre, p.1 ≠ k) : (Pc.litres pre).count k = 0 := by
  rw [List.count_eq_zero]
  intro hx
  obtain ⟨q, hq, he⟩ := litres_mem hx
  exact hne q hq he
theorem ahead_back {f g n o pre post : List (Int × Int)} {k v : Int} (hf : Pc.Vd f) (hg : Pc.Vd g) (hv : 1 ≤ v) (hfe : f = pre ++ (k, v) :: post) (hne : ∀ p ∈ pre, p.1 ≠ k) (hgl : Pc.vol g = Pc.vol pre) (h : PushOk f g true n o) :
    Pc.of_ o k = 0 ∧ (Pc.litres n).getD 0 (-1) = k ∧ 0 < (Pc.litres n).length := by
  have lf : Pc.litres f = Pc.litres pre ++ (List.replicate v.toNat k ++ Pc.litres post) := by rw [hfe, Pc.litres_append, Pc.litres_cons]
  have l1 := Pc.litres_length pre (nonneg_part hf (by rw [hfe]; intro p hp; simp [hp]))
  have l2 := Pc.litres_length g hg.nonneg
  have lp : (Pc.litres g).length = (Pc.litres pre).length := by omega
  have lo := h.lo
  have ln := h.ln
  simp only [if_true] at lo ln
  rw [lf, lp, List.append_assoc, List.take_left] at lo
  rw [lf, lp, List.append_assoc, List.drop_left] at ln
  have e : v.toNat = (v.toNat - 1) + 1 := by omega
  rw [e, List.replicate_succ] at ln
  refine ⟨?_, ?_, ?_⟩
  · rw [of_count k h.vo.nonneg, lo, none_count hne]; rfl
  · rw [ln]; rfl
  · rw [ln]; simp
theorem ahead_front {f g n o pre post : List (Int × Int)} {k v : Int} (hf : Pc.Vd f) (hg : Pc.Vd g) (hv : 1 ≤ v) (hfe : f.reverse = pre ++ (k, v) :: post) (hne : ∀ p ∈ pre, p.1 ≠ k) (hgl : Pc.vol g = Pc.vol pre) (h : PushOk f g false n o) :
    Pc.of_ o k = 0 ∧ (Pc.litres n).getD ((Pc.litres n).length - 1) (-1) = k ∧ 0 < (Pc.litres n).length := by
  have hfe2 : f = (post.reverse ++ [(k, v)]) ++ pre.reverse := by
    have := congrArg List.reverse hfe
    rw [List.reverse_reverse] at this
    rw [this]
    simp
  have lf : Pc.litres f = (Pc.litres post.reverse ++ List.replicate v.toNat k) ++ Pc.litres pre.reverse := by
    rw [hfe2, Pc.litres_append, Pc.litres_append]
    simp [Pc.litres]
  have l1 := Pc.litres_length pre.reverse (nonneg_part hf (by rw [hfe2]; intro p hp; simp at hp; simp [hp]))
  rw [vol_rev] at l1
  have l2 := Pc.litres_length g hg.nonneg
  have lp : (Pc.litres g).length = (Pc.litres pre.reverse).length := by omega
  obtain ⟨A, hA⟩ : ∃ A, Pc.litres post.reverse = A := ⟨_, rfl⟩
  rw [hA] at lf
  have lo := h.lo
  have ln := h.ln
  simp only [Bool.false_eq_true, if_false] at lo ln
  have e : v.toNat = (v.toNat - 1) + 1 := by omega
  rw [e, List.replicate_succ'] at lf
  obtain ⟨D, hD⟩ : ∃ D, A ++ (List.replicate (v.toNat - 1) k ++ [k]) = D := ⟨_, rfl⟩
  rw [hD] at lf
  have e1 : (Pc.litres f).length = ((Pc.litres g) ++ D).length := by rw [lf]; simp only [List.length_append]; omega
  rw [e1] at lo ln
  rw [lf, ← List.append_assoc, List.drop_left] at lo
  rw [lf, ← List.append_assoc, List.take_left] at ln
  rw [← hD, ← List.append_assoc, ← List.append_assoc] at ln
  refine ⟨?_, ?_, ?_⟩
  · rw [of_count k h.vo.nonneg, lo, none_count (fun p hp => hne p (List.mem_reverse.1 hp))]; rfl
  · rw [ln, List.length_append, List.length_singleton, Nat.add_sub_cancel, List.getD_eq_getElem?_getD, List.getElem?_concat_length]; rfl
  · rw [ln]; simp; omega
theorem ahead_order {f : List (Int × Int)} (hf : Pc.Vd f) (k : Int) (back : Bool) : (aheadGo k (if back then f else f.reverse) 0 = (0, 8) ∧ Pc.of_ f k = 0) ∨ ∃ pre v post, (if back then f else f.reverse) = pre ++ (k, v) :: post ∧ (∀ p ∈ pre, p.1 ≠ k) ∧ aheadGo k (if back then f else f.reverse) 0 = (Pc.vol pre, 0) ∧ Pc.of_ f k ≠ 0 ∧ 1 ≤ v ∧ 0 ≤ Pc.vol pre ∧ Pc.vol pre < Pc.vol f := by
  have hE : ∀ p ∈ (if back then f else f.reverse), 1 ≤ p.2 := by
    intro p hp
    have : p ∈ f := by cases back <;> simpa using hp
    have := hf.each p this
    omega
  have hof : Pc.of_ (if back then f else f.reverse) k = Pc.of_ f k := by
    cases back with
    | true => rfl
    | false =>
      have h1 := of_count k hf.nonneg
      have h2 := of_count k (vd_rev hf).nonneg
      simp only [Bool.false_eq_true, if_false]
      rw [h1, h2]
      congr 1
      unfold Pc.litres
      rw [← List.reverse_reverse f]
      generalize f.reverse = g
      rw [List.reverse_reverse]
      clear h1 h2 hE hf
      induction g with
      | nil => rfl
      | cons p r ih => simp only [List.flatMap_cons, List.reverse_cons, List.flatMap_append, List.flatMap_nil, List.append_nil, List.count_append, ← ih]; omega
  have hvol : Pc.vol (if back then f else f.reverse) = Pc.vol f := by cases back <;> simp [vol_rev]
  rcases ahead_go k _ 0 hE with ⟨h1, h2⟩ | ⟨pre, v, post, h1, h2, h3, h4⟩
  · exact .inl ⟨h1, by rw [← hof, h2]⟩
  · have hv := hE (k, v) (by rw [h1]; simp)
    have hn : ∀ l : List (Int × Int), (∀ p ∈ l, 1 ≤ p.2) → 0 ≤ Pc.vol l := by
      intro l
      induction l with
      | nil => intro _; simp [Pc.vol]
      | cons p r ih =>
        intro h
        have a := h p List.mem_cons_self
        have b := ih fun q hq => h q (List.mem_cons_of_mem _ hq)
        simp only [Pc.vol]; omega
    have n1 := hn pre fun p hp => hE p (by rw [h1]; simp [hp])
    have n2 := hn post fun p hp => hE p (by rw [h1]; simp [hp])
    have e := hvol
    rw [h1, vol_app2] at e
    simp only [Pc.vol] at e
    dsimp only at hv
    refine .inr ⟨pre, v, post, h1, h2, by rw [h3, Int.zero_add], by rw [← hof]; exact h4, hv, n1, by omega⟩
end Go.Proofs.Ytchjindkjbpbnaa
