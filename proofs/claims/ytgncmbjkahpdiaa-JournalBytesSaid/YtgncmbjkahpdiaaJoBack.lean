/- What is read can be framed again to the bytes it came from. No condition. -/
import Derived.Test.YtgncmbjkahpdiaaJoPlain
namespace Go.Proofs.Ytgncmbjkahpdiaa
open Go.RowKit Sy
set_option linter.unusedVariables false
set_option linter.unusedSimpArgs false
theorem fold_unfold (v : Nat) : Wire.fold (Wire.unfold_ v) = v := by
  unfold Wire.fold Wire.unfold_
  split <;> split <;> omega
/-- The bytes of a number that was read are its encoding. -/
theorem scan_inv : ∀ {r : List Nat} {k u m : Nat} {x : Int}, (∀ c ∈ r, c < 256) → u < 2 ^ (7 * k) → Wire.scan r k u = (x, m, 0) →
    ∃ v, Wire.unfold_ (u + v * 2 ^ (7 * k)) = x ∧ r.take (m - k) = Wire.put v ∧ (0 < k → 0 < v) ∧ u + v * 2 ^ (7 * k) < 18446744073709551616
  | [], k, u, m, x, h8, hu, h => by
    unfold Wire.scan at h
    split at h <;> simp at h
  | c :: r, k, u, m, x, h8, hu, h => by
    have hc := h8 c (List.mem_cons_self)
    by_cases hk : k < 10
    · by_cases hbig : 128 ≤ c
      · by_cases hk9 : k = 9
        · subst hk9
          rw [scan_nine' (by omega)] at h
          simp at h
        · have hmr := scan_range h rfl
          rw [Wire.scan_more hk hbig] at h
          have hst := Wire.step_lt (c := c) (show k < 9 by omega) hu
          have hadd := (add_fit hk hu hc (by omega)).2
          have hno : (u + c % 128 * 2 ^ (7 * k)) % 18446744073709551616 = u + c % 128 * 2 ^ (7 * k) := by
            refine Nat.mod_eq_of_lt ?_
            have h1 : 2 ^ (7 * (k + 1)) ≤ 2 ^ 63 := Nat.pow_le_pow_right (by omega) (by omega)
            have h2 : 2 ^ (7 * (k + 1)) = 128 * 2 ^ (7 * k) := by rw [show 7 * (k + 1) = 7 + 7 * k by omega, Nat.pow_add]
            rw [h2, pow63] at h1
            have h3 := Nat.mul_le_mul_right (2 ^ (7 * k)) (show c % 128 ≤ 127 by omega)
            omega
          rw [hno] at h hst
          have hm2 := scan_range h rfl
          obtain ⟨v, h1, h2, h3, h4⟩ := scan_inv (fun d hd => h8 d (List.mem_cons_of_mem _ hd)) hst h
          have hv := h3 (by omega)
          have h5 : 2 ^ (7 * (k + 1)) = 128 * 2 ^ (7 * k) := by rw [show 7 * (k + 1) = 7 + 7 * k by omega, Nat.pow_add]
          have e : u + c % 128 * 2 ^ (7 * k) + v * 2 ^ (7 * (k + 1)) = u + (c % 128 + 128 * v) * 2 ^ (7 * k) := by
            rw [h5, Nat.add_mul, ← Nat.mul_assoc, Nat.mul_comm v 128]
            omega
          rw [e] at h1 h4
          refine ⟨c % 128 + 128 * v, h1, ?_, by omega, h4⟩
          rw [show m - k = (m - (k + 1)) + 1 by omega, List.take_succ_cons, h2, Wire.put_big (u := c % 128 + 128 * v) (by omega)]
          congr 1
          · omega
          · congr 1; omega
      · by_cases hbad : (k = 9 ∧ 1 < c) ∨ (0 < k ∧ c = 0)
        · rw [Wire.scan_bad hk (by omega) hbad] at h
          simp at h
        · rw [Wire.scan_good hk (by omega) hbad] at h
          have hlt : u + c % 128 * 2 ^ (7 * k) < 18446744073709551616 := by
            by_cases h9 : k = 9
            · have e : (2 : Nat) ^ (7 * k) = 9223372036854775808 := by rw [h9]
              obtain ⟨p, hp⟩ : ∃ p, (2 : Nat) ^ (7 * k) = p := ⟨_, rfl⟩
              rw [hp] at hu e ⊢
              have h2 := Nat.mul_le_mul_right p (show c % 128 ≤ 1 by omega)
              omega
            · have h1 : 2 ^ (7 * (k + 1)) ≤ 2 ^ 63 := Nat.pow_le_pow_right (by omega) (by omega)
              have h2 : 2 ^ (7 * (k + 1)) = 128 * 2 ^ (7 * k) := by rw [show 7 * (k + 1) = 7 + 7 * k by omega, Nat.pow_add]
              rw [h2, pow63] at h1
              have h3 := Nat.mul_le_mul_right (2 ^ (7 * k)) (show c % 128 ≤ 127 by omega)
              omega
          have hcm : c % 128 = c := by omega
          rw [Nat.mod_eq_of_lt hlt, hcm] at h
          obtain ⟨h1, h2⟩ : Wire.unfold_ (u + c * 2 ^ (7 * k)) = x ∧ k + 1 = m := by simpa using h
          rw [hcm] at hlt
          refine ⟨c, h1, ?_, by omega, hlt⟩
          rw [show m - k = 1 by omega, Wire.put_small (by omega)]
          simp
    · rw [Wire.scan_ten hk] at h
      simp at h
theorem getI_inv {bs : List Nat} {a m : Nat} {x : Int} (h8 : Bytes bs) (ha : a ≤ bs.length) (h : Wire.getI bs a = (x, (m : Int), 0)) : (bs.take m).drop a = putZ x := by
  rw [getI_at ha] at h
  obtain ⟨⟨s1, s2, s3⟩, hs⟩ : ∃ s, Wire.scan (bs.drop a) 0 0 = s := ⟨_, rfl⟩
  rw [hs] at h
  dsimp only at h
  by_cases h3 : s3 = 0
  · rw [if_pos h3] at h
    subst h3
    obtain ⟨rfl, h2⟩ : s1 = x ∧ (a : Int) + s2 = m := by simpa using h
    obtain ⟨v, g1, g2, _, _⟩ := scan_inv (fun c hc => h8 c (List.mem_of_mem_drop hc)) (by simp) hs
    simp only [Nat.mul_zero, Nat.pow_zero, Nat.mul_one, Nat.zero_add, Nat.sub_zero] at g1 g2
    unfold putZ
    rw [← g1, fold_unfold, ← g2]
    have : m = a + s2 := by omega
    rw [this, List.drop_take]
    congr 1
    omega
  · rw [if_neg h3] at h
    simp at h
    exact absurd h.2.2 h3
/-- All that is read, framed again. -/
theorem rd_back {bs : List Nat} (h8 : Bytes bs) : ∀ {f a : Nat}, a ≤ bs.length → a ≤ (rd bs f a).2 ∧ (rd bs f a).2 ≤ bs.length ∧ frs (rd bs f a).1 = (bs.take (rd bs f a).2).drop a ∧ ∀ b ∈ (rd bs f a).1, b.length ≤ 4000
  | 0, a, ha => ⟨Nat.le_refl _, ha, by simp [rd, frs, List.drop_take], by intro b hb; simp [rd] at hb⟩
  | f + 1, a, ha => by
    by_cases h : a < bs.length
    · obtain ⟨x, y, e, hg⟩ : ∃ x y e, Wire.getI bs a = (x, y, e) := ⟨_, _, _, rfl⟩
      by_cases hc : e = 0 ∧ 0 ≤ x ∧ x ≤ 4000 ∧ x ≤ bs.length - y
      · obtain ⟨rfl, h1, h2, h3⟩ := hc
        have hr := getI_range ha hg
        obtain ⟨n, rfl⟩ : ∃ n : Nat, x = (n : Int) := ⟨x.toNat, by omega⟩
        obtain ⟨m, rfl⟩ : ∃ n : Nat, y = (n : Int) := ⟨y.toNat, by omega⟩
        rw [rd_go h hg rfl (by omega) (by omega)]
        obtain ⟨i1, i2, i3, i4⟩ := rd_back h8 (f := f) (a := m + n) (by omega)
        dsimp only
        have hbl : ((bs.take (m + n)).drop m).length = n := by rw [List.length_drop, List.length_take]; omega
        refine ⟨by omega, i2, ?_, ?_⟩
        · rw [frs_cons, i3]
          unfold fr
          rw [hbl, ← getI_inv h8 ha hg]
          obtain ⟨E, hE⟩ : ∃ E, (rd bs f (m + n)).2 = E := ⟨_, rfl⟩
          rw [hE] at i1 i2 ⊢
          have e1 : (bs.take m) = ((bs.take E).take (m + n)).take m := by rw [List.take_take, List.take_take]; congr 1; omega
          have e2 : bs.take (m + n) = (bs.take E).take (m + n) := by rw [List.take_take]; congr 1; omega
          rw [e1, e2]
          obtain ⟨X, hX⟩ : ∃ X, bs.take E = X := ⟨_, rfl⟩
          rw [hX]
          have e3 : X.drop a = ((X.take (m + n)).drop a) ++ X.drop (m + n) := by
            conv => lhs; rw [← List.take_append_drop (m + n) X]
            rw [List.drop_append_of_le_length (by rw [← hX, List.length_take, List.length_take]; omega)]
          have e4 : (X.take (m + n)).drop a = (((X.take (m + n)).take m).drop a) ++ (X.take (m + n)).drop m := by
            conv => lhs; rw [← List.take_append_drop m (X.take (m + n))]
            rw [List.drop_append_of_le_length (by rw [List.length_take, List.length_take, ← hX, List.length_take]; omega)]
          rw [e3, e4]
        · intro b hb
          rcases List.mem_cons.1 hb with rfl | hb
          · rw [hbl]; omega
          · exact i4 b hb
      · rw [rd_stop h hg hc]
        exact ⟨Nat.le_refl _, ha, by simp [frs, List.drop_take], by intro b hb; simp at hb⟩
    · rw [rd_no h]
      exact ⟨Nat.le_refl _, ha, by simp [frs, List.drop_take], by intro b hb; simp at hb⟩
theorem read_back {bs : List Nat} {y : List (List Nat)} {k : Nat} (h8 : Bytes bs) (h : readV bs = (y, k)) : k ≤ bs.length ∧ frs y = bs.take k ∧ ∀ b ∈ y, b.length ≤ 4000 := by
  have := rd_back h8 (f := bs.length + 1) (a := 0) (by omega)
  unfold readV at h
  rw [h] at this
  simpa using this.2
end Go.Proofs.Ytgncmbjkahpdiaa
