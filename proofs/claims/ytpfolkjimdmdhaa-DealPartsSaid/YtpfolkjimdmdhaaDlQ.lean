/- The laws of dealing, plain. No condition. -/
import Derived.Test.YtpfolkjimdmdhaaDlP
namespace Go.Proofs.Ytpfolkjimdmdhaa
open Go.RowKit Sy
set_option linter.unusedVariables false
set_option linter.unusedSimpArgs false
namespace Dl
/-- The one that is chosen has the least (received + 1) / rate. -/
theorem nx_min (R C : List Int) : ∀ k, (nx R C k = -1 ∧ ∀ i, i < k → ¬ 0 < rt R i) ∨ ∃ j : Nat, nx R C k = (j : Int) ∧ j < k ∧ 0 < rt R j ∧ ∀ i, i < k → 0 < rt R i → (rt C j + 1) * rt R i ≤ (rt C i + 1) * rt R j
  | 0 => .inl ⟨rfl, fun i h => by omega⟩
  | k + 1 => by
    rcases nx_min R C k with ⟨h1, h2⟩ | ⟨j, h1, h2, h3, h4⟩
    · by_cases h0 : 0 < rt R k
      · refine .inr ⟨k, ?_, by omega, h0, fun i hi hri => ?_⟩
        · unfold nx; rw [if_pos ⟨h0, .inl (by omega)⟩]
        · by_cases e : i = k
          · subst e; omega
          · exact (h2 i (by omega) hri).elim
      · refine .inl ⟨?_, fun i hi => ?_⟩
        · unfold nx; rw [if_neg (fun h => h0 h.1)]; exact h1
        · by_cases e : i = k
          · subst e; exact h0
          · exact h2 i (by omega)
    · by_cases hc : 0 < rt R k ∧ (rt C k + 1) * rt R j < (rt C j + 1) * rt R k
      · refine .inr ⟨k, ?_, by omega, hc.1, fun i hi hri => ?_⟩
        · unfold nx; rw [h1, Int.toNat_natCast, if_pos ⟨hc.1, .inr hc.2⟩]
        · by_cases e : i = k
          · subst e; omega
          · have h5 := h4 i (by omega) hri
            have h6 := Int.mul_lt_mul_of_pos_right hc.2 hri
            have h7 := Int.mul_le_mul_of_nonneg_right h5 (Int.le_of_lt hc.1)
            refine Int.le_of_lt (Int.lt_of_mul_lt_mul_right (a := rt R j) ?_ (by omega))
            grind
      · refine .inr ⟨j, ?_, by omega, h3, fun i hi hri => ?_⟩
        · unfold nx
          rw [h1, Int.toNat_natCast, if_neg ?_]
          rintro ⟨h5, h6 | h6⟩
          · omega
          · exact hc ⟨h5, h6⟩
        · by_cases e : i = k
          · subst e
            have : ¬ ((rt C i + 1) * rt R j < (rt C j + 1) * rt R i) := fun h => hc ⟨hri, h⟩
            omega
          · exact h4 i (by omega) hri
/-- One more litre: who gets it. -/
theorem cs_step {r : List Int} (h : Rates r) (k : Nat) : ∃ j : Nat, nx r (cs r k) r.length = (j : Int) ∧ j < r.length ∧ 0 < rt r j ∧ cs r (k + 1) = (cs r k).set j (rt (cs r k) j + 1) ∧
    (∀ i, i < r.length → 0 < rt r i → (rt (cs r k) j + 1) * rt r i ≤ (rt (cs r k) i + 1) * rt r j) := by
  rcases nx_min r (cs r k) r.length with ⟨h1, h2⟩ | ⟨j, h1, h2, h3, h4⟩
  · obtain ⟨j, h3, _⟩ := h.nx (cs r k)
    omega
  · exact ⟨j, h1, h2, h3, by rw [cs, bump, h1]; rfl, h4⟩
theorem rt_set {C : List Int} {j i : Nat} {x : Int} (h : j < C.length) : rt (C.set j x) i = if i = j then x else rt C i := by
  unfold rt
  simp only [List.getD_eq_getElem?_getD, List.getElem?_set]
  by_cases e : j = i
  · subst e; simp [h]
  · rw [if_neg e, if_neg (fun h => e h.symm)]
theorem cs_tot {r : List Int} (h : Rates r) : ∀ k, tot (cs r k) = k
  | 0 => by
    have : ∀ n, tot (List.replicate n 0) = 0 := by
      intro n
      induction n with
      | zero => rfl
      | succ n ih => rw [List.replicate_succ, tot, ih]; rfl
    simpa [cs] using this r.length
  | k + 1 => by
    obtain ⟨j, h1, h2, h3, h4, _⟩ := cs_step h k
    have hl := cs_len r k
    rw [h4, tot_set (get_rt (by omega)), cs_tot h k]
    omega
/-- Sums, by the numbers. -/
theorem tot_mul_le {a b d : Int} : ∀ {c r : List Int}, c.length = r.length → (∀ j, j < r.length → rt c j * a ≤ b * rt r j) → ∀ {i : Nat}, i < r.length → rt c i * a + d ≤ b * rt r i → tot c * a + d ≤ b * tot r
  | [], [], _, _, i, hi, _ => by simp at hi
  | [], _ :: _, hl, _, i, hi, _ => by simp at hl
  | _ :: _, [], hl, _, i, hi, _ => by simp at hl
  | x :: c, y :: r, hl, hall, i, hi, hd => by
    simp only [List.length_cons, Nat.add_right_cancel_iff] at hl
    have h0 := hall 0 (by simp)
    have hr : ∀ j, j < r.length → rt c j * a ≤ b * rt r j := fun j hj => by
      have := hall (j + 1) (by simpa using hj)
      simpa [rt] using this
    have e0 : rt (x :: c) 0 = x := rfl
    have e1 : rt (y :: r) 0 = y := rfl
    rw [e0, e1] at h0
    simp only [tot]
    cases i with
    | zero =>
      rw [e0, e1] at hd
      have h2 : tot c * a ≤ b * tot r := by
        have : ∀ {c r : List Int}, c.length = r.length → (∀ j, j < r.length → rt c j * a ≤ b * rt r j) → tot c * a ≤ b * tot r := by
          intro c
          induction c with
          | nil => intro r hl _; cases r with
            | nil => simp [tot]
            | cons _ _ => simp at hl
          | cons x c ih =>
            intro r hl hall
            cases r with
            | nil => simp at hl
            | cons y r =>
              simp only [List.length_cons, Nat.add_right_cancel_iff] at hl
              have h0 := hall 0 (by simp)
              have h1 := ih hl (fun j hj => by have := hall (j + 1) (by simpa using hj); simpa [rt] using this)
              have e0 : rt (x :: c) 0 = x := rfl
              have e1 : rt (y :: r) 0 = y := rfl
              rw [e0, e1] at h0
              simp only [tot]
              rw [Int.add_mul, Int.mul_add]; omega
        exact this hl hr
      rw [Int.add_mul, Int.mul_add]; omega
    | succ i =>
      have h3 := tot_mul_le (d := d) hl hr (i := i) (by simpa using hi) (by simpa [rt] using hd)
      rw [Int.add_mul, Int.mul_add]; omega
theorem tot_le_pt : ∀ {c r : List Int}, c.length = r.length → (∀ j, j < r.length → rt c j ≤ rt r j) → tot c ≤ tot r ∧ (tot c = tot r → c = r)
  | [], [], _, _ => by simp
  | [], _ :: _, hl, _ => by simp at hl
  | _ :: _, [], hl, _ => by simp at hl
  | x :: c, y :: r, hl, hall => by
    simp only [List.length_cons, Nat.add_right_cancel_iff] at hl
    have h0 := hall 0 (by simp)
    have e0 : rt (x :: c) 0 = x := rfl
    have e1 : rt (y :: r) 0 = y := rfl
    rw [e0, e1] at h0
    obtain ⟨h1, h2⟩ := tot_le_pt hl (fun j hj => by have := hall (j + 1) (by simpa using hj); simpa [rt] using this)
    simp only [tot]
    refine ⟨by omega, fun h => ?_⟩
    have e2 : tot c = tot r := by omega
    rw [h2 e2, show x = y by omega]
theorem rt_nn {r : List Int} (h : Rates r) (i : Nat) : 0 ≤ rt r i := by
  unfold rt
  rw [List.getD_eq_getElem?_getD]
  cases hz : r[i]? with
  | none => simp
  | some z => exact h.nn z (List.mem_of_getElem? hz)
/-- Nobody has more than the rate while there is something left. -/
theorem cs_le {r : List Int} (h : Rates r) : ∀ k : Nat, (k : Int) ≤ tot r → ∀ i, i < r.length → rt (cs r k) i ≤ rt r i
  | 0, _, i, hi => by
    have := rt_bd r 0 i
    have := rt_nn h i
    omega
  | k + 1, hk, i, hi => by
    have ih := cs_le h k (by omega)
    obtain ⟨j, h1, h2, h3, h4, h5⟩ := cs_step h k
    have hl := cs_len r k
    rw [h4, rt_set (by omega)]
    split
    · rename_i e
      subst e
      -- someone has less than the rate
      obtain ⟨m, hm, hlt⟩ : ∃ m, m < r.length ∧ rt (cs r k) m < rt r m := by
        refine Classical.byContradiction fun hn => ?_
        have : ∀ j, j < r.length → rt r j ≤ rt (cs r k) j := fun j hj => by
          refine Classical.byContradiction fun hlt => hn ⟨j, hj, by omega⟩
        have h6 := (tot_le_pt (c := r) (r := cs r k) hl.symm (fun j hj => this j (by omega))).1
        rw [cs_tot h k] at h6
        omega
      have hb := rt_bd r k m
      have hpos : 0 < rt r m := by omega
      have h7 := h5 m hm hpos
      have h8 := Int.mul_le_mul_of_nonneg_right (show rt (cs r k) m + 1 ≤ rt r m by omega) (Int.le_of_lt h3)
      refine Int.le_of_mul_le_mul_right (a := rt r m) ?_ hpos
      have h9 : rt r m * rt r i = rt r i * rt r m := Int.mul_comm _ _
      omega
    · exact ih i hi
/-- As many litres as the rates make together. -/
theorem cs_all {r : List Int} (h : Rates r) : cs r (tot r).toNat = r := by
  have h0 := h.pos
  have h1 := cs_le h (tot r).toNat (by omega)
  refine (tot_le_pt (cs_len r _) h1).2 ?_
  rw [cs_tot h]; omega
/-- Who has received c litres had a claim to them. -/
theorem cs_claim {r : List Int} (h : Rates r) : ∀ (k j i : Nat), j < r.length → i < r.length → 0 < rt r i → rt (cs r k) j * rt r i ≤ (rt (cs r k) i + 1) * rt r j
  | 0, j, i, hj, hi, hp => by
    have h1 := rt_bd r 0 j
    have h2 := rt_bd r 0 i
    rw [show rt (cs r 0) j = 0 by omega, Int.zero_mul]
    exact Int.mul_nonneg (by omega) (rt_nn h j)
  | k + 1, j, i, hj, hi, hp => by
    have ih := cs_claim h k j i hj hi hp
    obtain ⟨q, h1, h2, h3, h4, h5⟩ := cs_step h k
    have hl := cs_len r k
    have hm := cs_mono1 r k i
    have hnn := rt_nn h j
    have hup : (rt (cs r k) i + 1) * rt r j ≤ (rt (cs r (k + 1)) i + 1) * rt r j := Int.mul_le_mul_of_nonneg_right (by omega) hnn
    by_cases e : j = q
    · subst e
      have e1 : rt (cs r (k + 1)) j = rt (cs r k) j + 1 := by rw [h4, rt_set (by omega), if_pos rfl]
      rw [e1]
      have := h5 i hi hp
      omega
    · have e1 : rt (cs r (k + 1)) j = rt (cs r k) j := by rw [h4, rt_set (by omega), if_neg e]
      rw [e1]
      omega
/-- Nobody has less than the exact part rounded down. -/
theorem cs_quota {r : List Int} (h : Rates r) (k i : Nat) (hi : i < r.length) : (k : Int) * rt r i < (rt (cs r k) i + 1) * tot r := by
  have hb := rt_bd r k i
  have hpos := h.pos
  by_cases hp : 0 < rt r i
  · have h1 := tot_mul_le (a := rt r i) (b := rt (cs r k) i + 1) (d := rt r i) (c := cs r k) (r := r) (cs_len r k) (fun j hj => cs_claim h k j i hj hi hp) hi (by grind)
    rw [cs_tot h k] at h1
    omega
  · have h2 := rt_nn h i
    rw [show rt r i = 0 by omega, Int.mul_zero]
    exact Int.mul_pos (by omega) hpos
theorem cs_quota_div {r : List Int} (h : Rates r) (k i : Nat) (hi : i < r.length) : ((k : Int) * rt r i) / tot r ≤ rt (cs r k) i := by
  have h1 := cs_quota h k i hi
  have h2 := h.pos
  have h3 := Int.ediv_mul_le ((k : Int) * rt r i) (show tot r ≠ 0 by omega)
  have h4 : ((k : Int) * rt r i) / tot r * tot r < (rt (cs r k) i + 1) * tot r := by omega
  have := Int.lt_of_mul_lt_mul_right h4 (by omega)
  omega
/-- Of two, nobody has more than the exact part rounded up. -/
theorem cs_two {r : List Int} (h : Rates r) (h2 : r.length = 2) (k i : Nat) (hi : i < r.length) : rt (cs r k) i ≤ ((k : Int) * rt r i + tot r - 1) / tot r := by
  obtain ⟨j, hj, hs, hr⟩ : ∃ j, j < r.length ∧ rt (cs r k) i + rt (cs r k) j = k ∧ rt r i + rt r j = tot r := by
    have ht := cs_tot h k
    have hl := cs_len r k
    obtain ⟨C, hC⟩ : ∃ C, cs r k = C := ⟨_, rfl⟩
    rw [hC] at ht hl ⊢
    clear hC h
    match r, h2, C, hl, ht, hi with
    | [a, b], _, [c, d], _, ht, hi =>
      simp only [tot] at ht ⊢
      simp only [List.length_cons, List.length_nil] at hi ⊢
      rcases (show i = 0 ∨ i = 1 by omega) with rfl | rfl
      · refine ⟨1, by omega, ?_, ?_⟩ <;> simp [rt] <;> omega
      · refine ⟨0, by omega, ?_, ?_⟩ <;> simp [rt] <;> omega
  have h3 := cs_quota h k j hj
  have h4 := h.pos
  refine (Int.le_ediv_iff_mul_le h4).2 ?_
  have e1 : rt (cs r k) j = k - rt (cs r k) i := by omega
  have e2 : rt r j = tot r - rt r i := by omega
  rw [e1, e2] at h3
  grind
/-- Rates that are all multiplied by the same number. -/
theorem rt_map {r : List Int} {f : Int} (i : Nat) : rt (r.map fun x => x * f) i = rt r i * f := by
  unfold rt
  simp only [List.getD_eq_getElem?_getD, List.getElem?_map]
  cases r[i]? <;> simp
theorem nx_scale {r C : List Int} {f : Int} (hf : 0 < f) : ∀ k, nx (r.map fun x => x * f) C k = nx r C k
  | 0 => rfl
  | k + 1 => by
    have ih := nx_scale (r := r) (C := C) hf k
    unfold nx
    rw [ih, rt_map, rt_map]
    have h1 : (0 < rt r k * f) ↔ 0 < rt r k := ⟨fun h => by
      refine Int.lt_of_mul_lt_mul_right (a := f) ?_ (by omega); simpa using h, fun h => Int.mul_pos h hf⟩
    have h2 : ((rt C k + 1) * (rt r (nx r C k).toNat * f) < (rt C (nx r C k).toNat + 1) * (rt r k * f)) ↔ ((rt C k + 1) * rt r (nx r C k).toNat < (rt C (nx r C k).toNat + 1) * rt r k) := by
      rw [← Int.mul_assoc, ← Int.mul_assoc]
      exact ⟨fun h => Int.lt_of_mul_lt_mul_right h (by omega), fun h => Int.mul_lt_mul_of_pos_right h hf⟩
    simp only [h1, h2]
theorem cs_scale {r : List Int} {f : Int} (hf : 0 < f) : ∀ k, cs (r.map fun x => x * f) k = cs r k
  | 0 => by simp [cs]
  | k + 1 => by
    simp only [cs]
    rw [cs_scale hf k, List.length_map, nx_scale hf]
theorem tot_scale {f : Int} : ∀ r : List Int, tot (r.map fun x => x * f) = tot r * f
  | [] => by simp [tot]
  | x :: r => by simp [tot, tot_scale r, Int.add_mul]
end Dl
end Go.Proofs.Ytpfolkjimdmdhaa
