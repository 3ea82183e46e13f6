/- What is read has these bytes. Plain Lean. -/
import Derived.Test.YtopmmodcaoaaeaaTgQ
namespace Go.Proofs.Ytopmmodcaoaaeaa
open Go.RowKit Sy
set_option linter.unusedVariables false
set_option linter.unusedSimpArgs false
theorem fold_unfold (u : Nat) : Wire.fold (Wire.unfold_ u) = u := by
  unfold Wire.fold Wire.unfold_
  split <;> split <;> omega
theorem unfold_i64 {u : Nat} (h : u < 18446744073709551616) : i64 (Wire.unfold_ u) := by
  unfold i64 Wire.unfold_
  split <;> omega
theorem pow_step (k : Nat) : 2 ^ (7 * (k + 1)) = 128 * 2 ^ (7 * k) := by rw [show 7 * (k + 1) = 7 + 7 * k by omega, Nat.pow_add]
theorem pow_le63 {k : Nat} (h : k < 9) : 128 * 2 ^ (7 * k) ≤ 9223372036854775808 := by
  rw [← pow_step]
  exact Nat.pow_le_pow_right (n := 2) (by omega) (show 7 * (k + 1) ≤ 63 by omega)
/-- A number that was read was written so. -/
theorem scan_back : ∀ (r : List Nat) (k u : Nat) (n : Int) (m : Nat), (∀ c ∈ r, c < 256) → u < 2 ^ (7 * k) → Wire.scan r k u = (n, m, 0) →
    ∃ w, r.take (m - k) = Wire.put w ∧ k < m ∧ m - k ≤ r.length ∧ n = Wire.unfold_ (u + w * 2 ^ (7 * k)) ∧ u + w * 2 ^ (7 * k) < 18446744073709551616 ∧ (0 < k → 0 < w)
  | [], k, u, n, m, _, _, h => by
    unfold Wire.scan at h
    split at h <;> simp at h
  | c :: r, k, u, n, m, h8, hu, h => by
    have hc := h8 c List.mem_cons_self
    by_cases hk : k < 10
    · by_cases hb : 128 ≤ c
      · rw [Wire.scan_more hk hb] at h
        by_cases hk9 : k = 9
        · rw [Wire.scan_ten (by omega)] at h
          simp at h
        · have hp := pow_le63 (show k < 9 by omega)
          have hs := pow_step k
          have h2 := Nat.mul_le_mul_right (2 ^ (7 * k)) (show c % 128 ≤ 127 by omega)
          have e : (u + c % 128 * 2 ^ (7 * k)) % 18446744073709551616 = u + c % 128 * 2 ^ (7 * k) := Nat.mod_eq_of_lt (by omega)
          rw [e] at h
          obtain ⟨w, h3, h4, h5, h6, h7, h9⟩ := scan_back r (k + 1) _ n m (fun d hd => h8 d (List.mem_cons_of_mem _ hd)) (by rw [hs]; omega) h
          have hw := h9 (by omega)
          have hval : u + c % 128 * 2 ^ (7 * k) + w * 2 ^ (7 * (k + 1)) = u + (c % 128 + 128 * w) * 2 ^ (7 * k) := by
            rw [hs, Nat.add_mul, Nat.add_assoc]
            congr 2
            rw [← Nat.mul_assoc, Nat.mul_comm w 128]
          rw [hval] at h6 h7
          refine ⟨c % 128 + 128 * w, ?_, by omega, by simp; omega, h6, h7, fun _ => by omega⟩
          rw [Wire.put_big (by omega), show m - k = (m - (k + 1)) + 1 by omega, List.take_succ_cons, h3]
          congr 1
          · omega
          · congr 1; omega
      · by_cases hbad : (k = 9 ∧ 1 < c) ∨ (0 < k ∧ c = 0)
        · rw [Wire.scan_bad hk (by omega) hbad] at h
          simp at h
        · rw [Wire.scan_good hk (by omega) hbad] at h
          have hlt : u + c * 2 ^ (7 * k) < 18446744073709551616 := by
            by_cases hk9 : k = 9
            · subst hk9
              have : c ≤ 1 := by omega
              have h2 := Nat.mul_le_mul_right (2 ^ (7 * 9)) this
              omega
            · have hp := pow_le63 (show k < 9 by omega)
              have h2 := Nat.mul_le_mul_right (2 ^ (7 * k)) (show c ≤ 127 by omega)
              omega
          rw [show c % 128 = c by omega, Nat.mod_eq_of_lt hlt] at h
          obtain ⟨h1, h2⟩ := Prod.mk.inj h
          obtain ⟨h2, _⟩ := Prod.mk.inj h2
          subst h2
          refine ⟨c, ?_, by omega, by simp only [List.length_cons]; omega, h1.symm, hlt, fun _ => by omega⟩
          rw [Wire.put_small (by omega), show k + 1 - k = 0 + 1 by omega, List.take_succ_cons, List.take_zero]
    · rw [Wire.scan_ten hk] at h
      simp at h
theorem getI_back {bs : List Nat} (h8 : ∀ c ∈ bs, c < 256) {a n a' : Int} (h : Wire.getI bs a = (n, a', 0)) :
    0 ≤ a ∧ a ≤ bs.length ∧ i64 n ∧ a' = a + (putZ n).length ∧ bs.drop a.toNat = putZ n ++ bs.drop a'.toNat ∧ a' ≤ bs.length := by
  unfold Wire.getI at h
  split at h
  · simp at h
  · rename_i hr
    dsimp only at h
    split at h
    · rename_i h0
      obtain ⟨⟨s1, s2, s3⟩, hs⟩ : ∃ s, Wire.scan (bs.drop a.toNat) 0 0 = s := ⟨_, rfl⟩
      rw [hs] at h h0
      dsimp only at h h0
      subst h0
      obtain ⟨h1, h2⟩ := Prod.mk.inj h
      obtain ⟨h2, _⟩ := Prod.mk.inj h2
      obtain ⟨w, k1, k2, k3, k4, k5, k6⟩ := scan_back _ 0 0 s1 s2 (fun c hc => h8 c (List.mem_of_mem_drop hc)) (by simp) hs
      simp only [Nat.mul_zero, Nat.pow_zero, Nat.mul_one, Nat.zero_add, Nat.sub_zero] at k1 k3 k4 k5
      rw [List.length_drop] at k3
      subst h1
      have hz : putZ s1 = Wire.put w := by unfold putZ; rw [k4, fold_unfold]
      have hl : (Wire.put w).length = s2 := by rw [← k1, List.length_take, List.length_drop]; omega
      refine ⟨by omega, by omega, by rw [k4]; exact unfold_i64 k5, by rw [hz, hl]; exact h2.symm, ?_, by omega⟩
      rw [hz, ← k1, show a'.toNat = a.toNat + s2 by omega, ← List.drop_drop, List.take_append_drop]
    · rename_i h0
      simp only [Prod.mk.injEq] at h
      exact absurd h.2.2 h0
theorem read_back {bs : List Nat} (h8 : ∀ c ∈ bs, c < 256) : ∀ k, (∀ i, i < k → eG bs i = 0) → 0 ≤ aG bs k ∧ aG bs k ≤ bs.length ∧ bs = putL ((List.range k).map (vG bs)) ++ bs.drop (aG bs k).toNat
  | 0, _ => ⟨by simp [aG], by simp [aG], by simp [aG, putL]⟩
  | k + 1, h => by
    obtain ⟨h1, h2, h3⟩ := read_back h8 k fun i hi => h i (by omega)
    have hg := g_at bs k
    rw [h k (by omega)] at hg
    obtain ⟨g1, g2, g3, g4, g5, g6⟩ := getI_back h8 hg
    refine ⟨by omega, g6, ?_⟩
    rw [List.range_succ, List.map_append, putL_app]
    have e : putL (List.map (vG bs) [k]) = putZ (vG bs k) := by unfold putL; simp
    rw [e, List.append_assoc, ← g5]
    exact h3
theorem nums_tgOf (bs : List Nat) (h : 0 ≤ vG bs 5) : numsL (tgOf bs) = (List.range (6 + (vG bs 5).toNat)).map (vG bs) := by
  have e : (List.range (6 + (vG bs 5).toNat)) = List.range 6 ++ (List.range (vG bs 5).toNat).map (6 + ·) := by
    apply List.ext_getElem?
    intro i
    by_cases hi : i < 6
    · rw [List.getElem?_append_left (by simpa using hi), List.getElem?_range (by omega), List.getElem?_range hi]
    · rw [List.getElem?_append_right (by simp; omega), List.length_range, List.getElem?_map]
      by_cases hi2 : i < 6 + (vG bs 5).toNat
      · rw [List.getElem?_range hi2, List.getElem?_range (by omega)]
        simp only [Option.map_some]
        congr 1; omega
      · rw [List.getElem?_eq_none (by simp; omega), List.getElem?_eq_none (by simp; omega)]; rfl
  rw [e, List.map_append, List.map_map]
  unfold numsL tgOf
  dsimp only
  congr 1
  rw [List.length_map, List.length_range]
  have : (((vG bs 5).toNat : Nat) : Int) = vG bs 5 := by omega
  rw [this]
  rfl
theorem fields_back {bs : List Nat} (h8 : ∀ c ∈ bs, c < 256) {t : Tg} (h : fieldsV bs = (t, true)) : TgOk t ∧ bs = putL (numsL t) := by
  unfold fieldsV at h
  split at h
  · rename_i hc
    obtain ⟨c1, c2, c3⟩ := hc
    obtain ⟨h1, h2⟩ := Prod.mk.inj h
    have h2 := of_decide_eq_true h2
    rw [← h1]
    refine ⟨h2.2, ?_⟩
    rw [nums_tgOf bs c2.1]
    have := (read_back h8 (6 + (vG bs 5).toNat) (fun i hi => by
      by_cases h6 : i < 6
      · exact c1 i (List.mem_range.2 h6)
      · have := c3 (i - 6) (List.mem_range.2 (by omega))
        rw [show 6 + (i - 6) = i by omega] at this
        exact this)).2.2
    rw [h2.1, Int.toNat_natCast, List.drop_length, List.append_nil] at this
    exact this
  · simp at h
/-- WHAT IS READ HAS THESE BYTES. -/
theorem dec_back {b : List Nat} (h8 : ∀ c ∈ b, c < 256) {t : Tg} (h : decV b = (t, 0)) : TgOk t ∧ b = Wire.stuff (insideV t) := by
  unfold decV at h
  split at h
  · simp at h
  · split at h
    · rename_i h2
      exact absurd (Prod.mk.inj h).2 h2
    · split at h
      · simp at h
      · split at h
        · simp at h
        · split at h
          · rename_i h1 h2 h3 h4 h5
            have h2' : (Wire.unstuff b).2 = 0 := Decidable.of_not_not h2
            have h4' := Decidable.of_not_not h4
            have hu := (Wire.unstuff_ok h8).1
            have hf := fields_back (fun c hc => hu c (List.mem_of_mem_take hc)) (t := t) (by
              rw [← (Prod.mk.inj h).1, ← h5])
            refine ⟨hf.1, ?_⟩
            unfold insideV
            rw [← hf.2, h4', Wire.stuff_unstuff h2']
          · simp at h
/-- Different telegrams, different bytes. -/
theorem enc_inj {a b : Tg} (ha : TgOk a) (hb : TgOk b) (h : Wire.stuff (insideV a) = Wire.stuff (insideV b)) : a = b := by
  have h1 := (dec_enc ha).2
  have h2 := (dec_enc hb).2
  rw [h, h2] at h1
  exact (Prod.mk.inj h1).1.symm
theorem bytes4 {a b : Nat} (ha : a < 4294967296) (hb : b < 4294967296) (h : [a % 256, a / 256 % 256, a / 65536 % 256, a / 16777216 % 256] = [b % 256, b / 256 % 256, b / 65536 % 256, b / 16777216 % 256]) : a = b := by
  simp only [List.cons.injEq, and_true] at h
  omega
/-- ONE BYTE CHANGED: NOT READ. -/
theorem damage {t : Tg} (h : TgOk t) {i d : Nat} (hi : i < (insideV t).length) (hd : d < 256) (hne : (insideV t)[i]? ≠ some d) : (decV (Wire.stuff ((insideV t).set i d))).2 ≠ 0 := by
  have hp8 := putL_b8 (numsL t)
  unfold insideV at hi hne ⊢
  obtain ⟨p, hp⟩ : ∃ p, putL (numsL t) = p := ⟨_, rfl⟩
  rw [hp] at hi hne hp8 ⊢
  have hsl : (sealV p).length = p.length + 4 := by unfold sealV; simp
  rw [hsl] at hi
  unfold decV
  split
  · simp
  · rw [Wire.unstuff_stuff]
    dsimp only
    rw [if_neg (by simp), List.length_set, hsl, if_neg (by omega), Nat.add_sub_cancel, if_pos]
    · simp
    · rw [List.take_set]
      have ht : (sealV p).take p.length = p := by unfold sealV; rw [List.take_left]
      rw [ht]
      intro he
      by_cases h1 : i < p.length
      · have h3 := congrArg (List.drop p.length) he
        rw [List.drop_set, if_pos h1] at h3
        unfold sealV at h3
        rw [show p.length = (p.set i d).length by simp, List.drop_left, List.length_set, List.drop_left] at h3
        refine Crc.sum_set_ne hp8 h1 hd ?_ (bytes4 (sum_u32 _) (sum_u32 _) h3)
        intro e
        apply hne
        unfold sealV
        rw [List.getElem?_append_left h1, List.getElem?_eq_getElem h1, e]
      · rw [List.set_eq_of_length_le (by omega)] at he
        apply hne
        conv => lhs; rw [he]
        rw [List.getElem?_set_self (by omega)]
end Go.Proofs.Ytopmmodcaoaaeaa
