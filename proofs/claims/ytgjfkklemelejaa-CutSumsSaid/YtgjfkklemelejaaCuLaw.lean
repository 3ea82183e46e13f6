/- The slops of what is received; nothing lost without slop. Plain Lean. -/
import Derived.Test.YtgjfkklemelejaaCuRecv
import Derived.Test.YtgjfkklemelejaaCuAwake
namespace Go.Proofs.Ytgjfkklemelejaa
open Go.RowKit Sy
set_option linter.unusedVariables false
set_option linter.unusedSimpArgs false
theorem sq_le {x y : Int} (h0 : 0 ≤ x) (h : x ≤ y) : x * x ≤ y * y := Int.mul_le_mul h h h0 (by omega)
theorem rootGo_ok {n : Int} (hn : n ≤ 4611686018427387904) : ∀ {k : Nat} {r : Int}, 0 ≤ r → r ≤ 2147483648 → r * r ≤ n → (n < (r + (2 ^ k : Nat)) * (r + (2 ^ k : Nat)) ∨ 2147483648 < r + (2 ^ k : Nat)) →
    (rootGo n k r) * (rootGo n k r) ≤ n ∧ n < (rootGo n k r + 1) * (rootGo n k r + 1)
  | 0, r, h0, hr, h1, h2 => by
    refine ⟨h1, ?_⟩
    show n < (r + 1) * (r + 1)
    rcases h2 with h2 | h2
    · simpa using h2
    · have e : r = 2147483648 := by simp at h2; omega
      subst e
      omega
  | k + 1, r, h0, hr, h1, h2 => by
    have e : (2 : Nat) ^ (k + 1) = 2 * 2 ^ k := by rw [Nat.pow_succ]; omega
    rw [e] at h2
    simp only [rootGo]
    obtain ⟨b, hb⟩ : ∃ b : Nat, 2 ^ k = b := ⟨_, rfl⟩
    rw [hb] at h2 ⊢
    have e2 : r + ((2 * b : Nat) : Int) = r + b + b := by omega
    rw [e2] at h2
    split
    · rename_i h
      exact rootGo_ok hn (k := k) (r := r + b) (by omega) h.1 h.2 (by rw [hb]; exact h2)
    · rename_i h
      refine rootGo_ok hn (k := k) (r := r) h0 hr h1 ?_
      rw [hb]
      by_cases h3 : r + (b : Int) ≤ 2147483648
      · left
        by_cases h4 : (r + (b : Int)) * (r + b) ≤ n
        · exact absurd ⟨h3, h4⟩ h
        · omega
      · right; omega
theorem rootUp_ok {n : Int} (h0 : 0 ≤ n) (hn : n ≤ 4611686018427387904) : (0 ≤ rootUpV n ∧ rootUpV n ≤ 2147483649) ∧ n ≤ rootUpV n * rootUpV n ∧ (rootUpV n = 0 ∨ (rootUpV n - 1) * (rootUpV n - 1) < n) := by
  have hr := rootV_range n
  have h := rootGo_ok hn (k := 32) (r := 0) (by omega) (by omega) (by omega) (.inr (by decide))
  have e : rootV n = rootGo n 32 0 := by unfold rootV; rw [if_pos ⟨h0, hn⟩]
  rw [← e] at h
  unfold rootUpV
  obtain ⟨s, hs⟩ : ∃ s, rootV n = s := ⟨_, rfl⟩
  rw [hs] at h hr ⊢
  by_cases h1 : s * s < n
  · rw [if_pos ⟨⟨h0, hn⟩, h1⟩]
    have e2 : s + 1 - 1 = s := by omega
    rw [e2]
    exact ⟨by omega, by omega, .inr h1⟩
  · rw [if_neg (fun hh => h1 hh.2)]
    refine ⟨by omega, by omega, ?_⟩
    by_cases h2 : s = 0
    · exact .inl h2
    · right
      have h3 : (s - 1) * (s - 1) = s * s - 2 * s + 1 := by rw [Int.sub_mul, Int.mul_sub]; omega
      omega
theorem rootUp_mono {n m : Int} (h0 : 0 ≤ n) (h : n ≤ m) (hm : m ≤ 4611686018427387904) : rootUpV n ≤ rootUpV m := by
  have a := rootUp_ok h0 (by omega)
  have b := rootUp_ok (show 0 ≤ m by omega) hm
  obtain ⟨u, hu⟩ : ∃ u, rootUpV n = u := ⟨_, rfl⟩
  obtain ⟨v, hv⟩ : ∃ u, rootUpV m = u := ⟨_, rfl⟩
  rw [hu] at a ⊢
  rw [hv] at b ⊢
  by_cases hc : u ≤ v
  · exact hc
  · exfalso
    have h1 := sq_le (x := v) (y := u - 1) b.1.1 (by omega)
    rcases a.2.2 with h2 | h2 <;> omega
theorem root_max {n : Int} (h0 : 0 ≤ n) (h : n ≤ 90000) : 0 ≤ rootUpV n ∧ rootUpV n ≤ 300 := by
  have h1 := rootUp_mono h0 h (by omega)
  have h2 : rootUpV 90000 = 300 := by rfl
  have h3 := (rootUp_ok h0 (by omega)).1.1
  omega
theorem ways_max {y : Int} (h : y ∈ waysL) : 0 ≤ y ∧ y ≤ 10000 := by
  simp only [waysL, List.mem_cons, List.not_mem_nil, or_false] at h
  omega
theorem slop_ok {f r y : Int} (hf : 0 ≤ f ∧ f ≤ 9) (hr : 1 ≤ r ∧ r ≤ 5) (hy : y ∈ waysL) : ∃ m c, mixV f y = (m, 0) ∧ 0 ≤ m ∧ m ≤ 300 ∧ 0 ≤ c ∧ c ≤ m ∧ slopAt f r y = (c, 0) ∧ (f = 0 → m = 0) ∧ (r = 1 → c = 0) := by
  have h1 := ways_max hy
  have h2 : 0 ≤ f * y := Int.mul_nonneg hf.1 h1.1
  have h3 : f * y ≤ 9 * 10000 := Int.mul_le_mul hf.2 h1.2 h1.1 (by omega)
  have h4 := root_max h2 (by omega)
  have hm := mix_ok hf.1 (by omega) h1.1 (by omega)
  obtain ⟨a, b, c, hc, hs, ha0, hb0, hc0, _, _, hcm⟩ := cut_sum (m := rootUpV (f * y)) (r := r) (by omega) hr
  refine ⟨rootUpV (f * y), c, hm, h4.1, h4.2, hc0, hcm, slopAt_yes hm hc, ?_, ?_⟩
  · rintro rfl
    rw [Int.zero_mul]
    rfl
  · rintro rfl
    unfold cutV at hc
    rw [if_pos (by omega), if_pos rfl] at hc
    simp only [Prod.mk.injEq] at hc
    omega
theorem err_none {g : Int → Int × Int} {l : List Int} (h : ∀ t ∈ l, (g t).2 = 0) : errGo g l = 0 := by
  rcases err_cases g l with ⟨h1, _⟩ | ⟨j, t, h1, _, h3, _⟩
  · exact h1
  · exact absurd (h t (mem_get h1)) h3
theorem merge_self {x : List (Int × Int)} (h : Pc.Vd x) : Pc.merge x = x := by
  rw [merge_good ⟨by have := h.len; omega, fun p hp => by have := h.each p hp; omega⟩, Pc.join_self h.canon]
theorem port_ok {x : List (Int × Int)} {t : List Int} {f r : Int} (hx : Pc.Vd x) (ht : t.length = x.length - 1) (hs : ∀ y ∈ t, (slopAt f r y).2 = 0) : portR x t f r = (poL x (t.map fun y => (slopAt f r y).1) x.length, 0) := by
  have hl := hx.len
  unfold portR
  rw [merge_self hx, if_neg (by rintro (h | h); exact h (Pc.valid_t hx); omega), if_neg (by omega), if_neg (by simp [err_none hs])]
theorem pos_zero (b : Int) (s : Bool) : pos b 0 s = [] := by unfold pos; rw [if_neg (by omega)]
theorem po_none {x : List (Int × Int)} {ss : List Int} (hx : Pc.Vd x) (hs : ∀ s ∈ ss, s = 0) : ∀ n, n ≤ x.length → poL x ss n = (x.take n).map fun p => (p.1, p.2, false)
  | 0, _ => by simp [poL_zero]
  | n + 1, hn => by
    obtain ⟨⟨b, v⟩, hp⟩ := has_get (show n < x.length by omega)
    have hv := hx.each _ (mem_get hp)
    dsimp only at hv
    have hsa : ∀ j, sAt ss j = 0 := by
      intro j
      unfold sAt
      rw [List.getD_eq_getElem?_getD]
      cases h : ss[j]? with
      | none => rfl
      | some s => exact hs s (mem_get h)
    have hva : vAt x n = v := by unfold vAt; rw [hp]; rfl
    have hb : bg x ss n = 0 := by unfold bg; rw [hsa, hva]; split <;> omega
    have he : en x ss n = 0 := by unfold en; rw [hsa, hva, hb]; split <;> omega
    rw [poL_succ, po_none hx hs n (by omega), take_snoc hp]
    unfold poAt
    rw [hb, he, hva, hp]
    simp only [Option.getD_some, pos_zero, Int.sub_zero, List.nil_append, List.append_nil, List.map_append, List.map_cons, List.map_nil]
    unfold pos
    rw [if_pos (by omega)]
theorem sum_none (x : List (Int × Int)) : sumP isS (x.map fun p => (p.1, p.2, false)) = 0 := by
  induction x with
  | nil => rfl
  | cons p r ih => simp only [List.map_cons, sumP, ih, isS]; simp
end Go.Proofs.Ytgjfkklemelejaa
