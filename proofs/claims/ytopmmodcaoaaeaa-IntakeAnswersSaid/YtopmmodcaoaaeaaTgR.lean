/- Reading all numbers till the end comes to the same as reading the fields. Plain Lean. -/
import Derived.Test.YtopmmodcaoaaeaaTgI
namespace Go.Proofs.Ytopmmodcaoaaeaa
open Go.RowKit Sy
set_option linter.unusedVariables false
set_option linter.unusedSimpArgs false
theorem a_step {bs : List Nat} (h8 : ∀ c ∈ bs, c < 256) {i : Nat} (h : eG bs i = 0) : aG bs i < aG bs (i + 1) ∧ aG bs (i + 1) ≤ bs.length ∧ 0 ≤ aG bs i := by
  have hg := g_at bs i
  rw [h] at hg
  obtain ⟨g1, g2, g3, g4, g5, g6⟩ := getI_back h8 hg
  have hp : 1 ≤ (putZ (vG bs i)).length := Wire.put_pos _
  omega
theorem a_mono {bs : List Nat} (h8 : ∀ c ∈ bs, c < 256) {j : Nat} : ∀ {k : Nat}, (∀ i, i < k → eG bs i = 0) → j ≤ k → aG bs j + (k - j : Nat) ≤ aG bs k
  | 0, _, h => by
    obtain rfl : j = 0 := by omega
    simp
  | k + 1, h, hj => by
    by_cases e : j = k + 1
    · subst e; simp
    · have h1 := a_mono h8 (k := k) (fun i hi => h i (by omega)) (show j ≤ k by omega)
      have h2 := (a_step h8 (h k (by omega))).1
      omega
theorem e_end {bs : List Nat} {k : Nat} (h : aG bs k = bs.length) : eG bs k ≠ 0 := by
  intro he
  have hg := g_at bs k
  rw [he, h] at hg
  unfold Wire.getI at hg
  rw [if_neg (by omega)] at hg
  have hd : bs.drop ((bs.length : Int)).toNat = [] := by rw [Int.toNat_natCast, List.drop_length]
  rw [hd] at hg
  unfold Wire.scan at hg
  simp at hg
theorem all_ok {bs : List Nat} (hf : (fieldsV bs).2 = true) : ∃ n : Nat, vG bs 5 = n ∧ n ≤ 16 ∧ (∀ i, i < 6 + n → eG bs i = 0) ∧ aG bs (6 + n) = bs.length ∧ TgOk (tgOf bs) := by
  unfold fieldsV at hf
  split at hf
  · rename_i hc
    obtain ⟨c1, c2, c3⟩ := hc
    obtain ⟨h1, h2⟩ := of_decide_eq_true hf
    refine ⟨(vG bs 5).toNat, by omega, by omega, fun i hi => ?_, h1, h2⟩
    by_cases h6 : i < 6
    · exact c1 i (List.mem_range.2 h6)
    · have := c3 (i - 6) (List.mem_range.2 (by omega))
      rw [show 6 + (i - 6) = i by omega] at this
      exact this
  · simp at hf
theorem not_fields {bs : List Nat} (h8 : ∀ c ∈ bs, c < 256) {k : Nat} (hk : ∀ i, i < k → eG bs i = 0)
    (h : aG bs k < bs.length ∧ eG bs k ≠ 0 ∨ aG bs k = bs.length ∧ (k < 6 ∨ vG bs 5 ≠ (k : Int) - 6 ∨ ¬ TgOk (tgOf bs))) : (fieldsV bs).2 = false := by
  cases hf : (fieldsV bs).2 with
  | false => rfl
  | true =>
    exfalso
    obtain ⟨n, h1, h2, h3, h4, h5⟩ := all_ok hf
    rcases h with ⟨g1, g2⟩ | ⟨g1, g2⟩
    · by_cases hlt : k < 6 + n
      · exact g2 (h3 k hlt)
      · have := a_mono h8 (j := 6 + n) hk (by omega)
        omega
    · have he := e_end g1
      have hge : ¬ k < 6 + n := fun hlt => he (h3 k hlt)
      have := a_mono h8 (j := 6 + n) hk (by omega)
      have hkn : k = 6 + n := by omega
      rcases g2 with g2 | g2 | g2
      · omega
      · omega
      · exact g2 h5
theorem yes_fields {bs : List Nat} {k : Nat} (hk : ∀ i, i < k → eG bs i = 0) (h1 : aG bs k = bs.length) (h6 : 6 ≤ k) (h5 : vG bs 5 = (k : Int) - 6) (ht : TgOk (tgOf bs)) : fieldsV bs = (tgOf bs, true) := by
  have hl := ht.ln
  have hlen : (tgOf bs).vs.length = (vG bs 5).toNat := by unfold tgOf; simp
  have hk2 : 6 + (vG bs 5).toNat = k := by omega
  unfold fieldsV
  rw [if_pos, hk2, decide_eq_true ⟨h1, ht⟩]
  refine ⟨fun i hi => hk i (by have := List.mem_range.1 hi; omega), by omega, fun i hi => hk (6 + i) (by have := List.mem_range.1 hi; omega)⟩
/-- What the list of all numbers makes. -/
theorem tgOf_list {bs : List Nat} {k : Nat} (h6 : 6 ≤ k) (h5 : vG bs 5 = (k : Int) - 6) : tgOf bs = ⟨vG bs 0, vG bs 1, vG bs 2, vG bs 3, vG bs 4, ((List.range k).map (vG bs)).drop 6⟩ := by
  unfold tgOf
  congr 1
  have e : (vG bs 5).toNat = k - 6 := by omega
  rw [e]
  apply List.ext_getElem?
  intro i
  rw [List.getElem?_drop, List.getElem?_map, List.getElem?_map]
  by_cases hi : i < k - 6
  · rw [List.getElem?_range hi, List.getElem?_range (by omega)]; rfl
  · rw [List.getElem?_eq_none (by simp; omega), List.getElem?_eq_none (by simp; omega)]; rfl
end Go.Proofs.Ytopmmodcaoaaeaa
