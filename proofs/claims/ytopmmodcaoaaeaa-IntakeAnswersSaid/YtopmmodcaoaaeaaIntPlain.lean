/- The encoding of numbers as plain arithmetic: folding, groups of seven bits, reading back. No condition. -/
namespace Go.Proofs.Ytopmmodcaoaaeaa.Wire
set_option linter.unusedVariables false
set_option linter.unusedSimpArgs false
/-- The folded number. -/
def fold (z : Int) : Nat := if 0 ≤ z then z.toNat * 2 else (-(z + 1)).toNat * 2 + 1
def unfold_ (u : Nat) : Int := if u % 2 = 0 then (u / 2 : Nat) else -((u / 2 : Nat) : Int) - 1
/-- The groups of seven bits, the least first. -/
def put (u : Nat) : List Nat := if _h : u < 128 then [u] else (u % 128 + 128) :: put (u / 128)
termination_by u
decreasing_by omega
theorem fold_lt {z : Int} (h1 : -9223372036854775808 ≤ z) (h2 : z ≤ 9223372036854775807) : fold z < 18446744073709551616 := by
  unfold fold; split <;> omega
theorem unfold_fold (z : Int) : unfold_ (fold z) = z := by
  unfold unfold_ fold; split <;> split <;> omega
theorem put_small {u : Nat} (h : u < 128) : put u = [u] := by rw [put, dif_pos h]
theorem put_big {u : Nat} (h : 128 ≤ u) : put u = (u % 128 + 128) :: put (u / 128) := by rw [put, dif_neg (by omega)]
theorem put_pos (u : Nat) : 1 ≤ (put u).length := by
  rcases Nat.lt_or_ge u 128 with h | h
  · simp [put_small h]
  · simp [put_big h]
theorem put_len : ∀ (n u : Nat), u < 128 ^ (n + 1) → (put u).length ≤ n + 1
  | 0, u, h => by rw [put_small (by omega)]; simp
  | n + 1, u, h => by
    rcases Nat.lt_or_ge u 128 with h1 | h1
    · simp [put_small h1]
    · rw [put_big h1, List.length_cons]
      have := put_len n (u / 128) (by rw [Nat.pow_succ] at h; omega)
      omega
theorem put_len10 {u : Nat} (h : u < 18446744073709551616) : (put u).length ≤ 10 := put_len 9 u (by omega)
theorem or128 : ∀ x, x < 256 → x ||| 128 = x % 128 + 128 := by decide +kernel

/-- Reading: the bytes from the index on, how many have been read, the number so far: (the number, how many bytes it took, the error). -/
def scan : List Nat → Nat → Nat → Int × Nat × Int
  | [], k, _ => if k < 10 then (0, 0, 2) else (0, 0, 3)
  | c :: r, k, u =>
    if k < 10 then
      if 128 ≤ c then scan r (k + 1) ((u + c % 128 * 2 ^ (7 * k)) % 18446744073709551616)
      else if (k = 9 ∧ 1 < c) ∨ (0 < k ∧ c = 0) then (0, 0, 3)
      else (unfold_ ((u + c % 128 * 2 ^ (7 * k)) % 18446744073709551616), k + 1, 0)
    else (0, 0, 3)
theorem scan_more {c k u : Nat} {r : List Nat} (hk : k < 10) (hc : 128 ≤ c) : scan (c :: r) k u = scan r (k + 1) ((u + c % 128 * 2 ^ (7 * k)) % 18446744073709551616) := by
  rw [scan, if_pos hk, if_pos hc]
theorem scan_bad {c k u : Nat} {r : List Nat} (hk : k < 10) (hc : c < 128) (h : (k = 9 ∧ 1 < c) ∨ (0 < k ∧ c = 0)) : scan (c :: r) k u = (0, 0, 3) := by
  rw [scan, if_pos hk, if_neg (by omega), if_pos h]
theorem scan_good {c k u : Nat} {r : List Nat} (hk : k < 10) (hc : c < 128) (h : ¬ ((k = 9 ∧ 1 < c) ∨ (0 < k ∧ c = 0))) :
    scan (c :: r) k u = (unfold_ ((u + c % 128 * 2 ^ (7 * k)) % 18446744073709551616), k + 1, 0) := by
  rw [scan, if_pos hk, if_neg (by omega), if_neg h]
theorem scan_ten {k u : Nat} {r : List Nat} (hk : ¬ k < 10) : scan r k u = (0, 0, 3) := by
  cases r <;> simp [scan, hk]
theorem step_lt {k u c : Nat} (hk : k < 9) (hu : u < 2 ^ (7 * k)) : (u + c % 128 * 2 ^ (7 * k)) % 18446744073709551616 < 2 ^ (7 * (k + 1)) := by
  refine Nat.lt_of_le_of_lt (Nat.mod_le _ _) ?_
  rw [show 7 * (k + 1) = 7 + 7 * k by omega, Nat.pow_add]
  generalize 2 ^ (7 * k) = p at *
  have h2 : c % 128 ≤ 127 := by omega
  have h3 := Nat.mul_le_mul_right p h2
  omega
/-- The number at an index, the index behind it, the error. -/
def getI (bs : List Nat) (at_ : Int) : Int × Int × Int :=
  if at_ < 0 ∨ (bs.length : Int) < at_ then (0, 0, 1)
  else
    let r := scan (bs.drop at_.toNat) 0 0
    if r.2.2 = 0 then (r.1, at_ + r.2.1, 0) else (0, 0, r.2.2)

theorem put_lt : ∀ (n u : Nat), u < n → ∀ c ∈ put u, c < 256
  | 0, u, h => by omega
  | n + 1, u, h => by
    rcases Nat.lt_or_ge u 128 with h1 | h1
    · rw [put_small h1]; intro c hc; simp at hc; omega
    · rw [put_big h1]
      intro c hc
      rcases List.mem_cons.1 hc with rfl | hc
      · omega
      · exact put_lt n (u / 128) (by omega) c hc
theorem put_bytes (u : Nat) : ∀ c ∈ put u, c < 256 := put_lt (u + 1) u (by omega)

theorem mul_pow7 (k a : Nat) : a / 128 * 2 ^ (7 * (k + 1)) = a / 128 * 128 * 2 ^ (7 * k) := by
  rw [show 7 * (k + 1) = 7 + 7 * k by omega, Nat.pow_add, ← Nat.mul_assoc]

/-- Reading what was written: from the k-th group on. -/
theorem scan_put : ∀ (n u k q : Nat) (more : List Nat), u < n → k + (put u).length ≤ 10 → q + u * 2 ^ (7 * k) < 18446744073709551616 → (0 < k → 0 < u) →
    scan (put u ++ more) k q = (unfold_ (q + u * 2 ^ (7 * k)), k + (put u).length, 0)
  | 0, u, _, _, _, h, _, _, _ => by omega
  | n + 1, u, k, q, more, h, hk, hlt, hz => by
    rcases Nat.lt_or_ge u 128 with h1 | h1
    · rw [put_small h1] at hk ⊢
      simp only [List.length_singleton] at hk
      rw [List.singleton_append, scan_good (by omega) h1]
      · rw [Nat.mod_eq_of_lt h1, Nat.mod_eq_of_lt hlt]; rfl
      · rintro (⟨rfl, h2⟩ | ⟨h2, h3⟩)
        · have : 2 * 2 ^ (7 * 9) ≤ u * 2 ^ (7 * 9) := Nat.mul_le_mul_right _ (by omega)
          omega
        · have := hz h2; omega
    · rw [put_big h1] at hk ⊢
      simp only [List.length_cons] at hk ⊢
      rw [List.cons_append, scan_more (by have := put_pos (u / 128); omega) (by omega)]
      have e1 : (u % 128 + 128) % 128 = u % 128 := by omega
      have e2 : u * 2 ^ (7 * k) = u % 128 * 2 ^ (7 * k) + u / 128 * 2 ^ (7 * (k + 1)) := by
        rw [mul_pow7, ← Nat.add_mul]
        congr 1
        omega
      rw [e1, Nat.mod_eq_of_lt (by omega)]
      rw [scan_put n (u / 128) (k + 1) _ more (by omega) (by omega) (by omega) (by omega), e2]
      rw [Nat.add_assoc, Nat.add_assoc, Nat.add_comm 1]

/-- Shorter bytes are no number. -/
theorem scan_short : ∀ (n u k q j : Nat), u < n → k + (put u).length ≤ 10 → j < (put u).length → scan ((put u).take j) k q = (0, 0, 2)
  | 0, u, _, _, _, h, _, _ => by omega
  | n + 1, u, k, q, j, h, hk, hj => by
    cases j with
    | zero => rw [List.take_zero, scan, if_pos (by have := put_pos u; omega)]
    | succ j =>
      rcases Nat.lt_or_ge u 128 with h1 | h1
      · rw [put_small h1] at hj; simp at hj
      · rw [put_big h1] at hk hj ⊢
        simp only [List.length_cons] at hk hj
        rw [List.take_succ_cons, scan_more (by omega) (by omega)]
        exact scan_short n (u / 128) (k + 1) _ j (by omega) (by omega) (by omega)

/-- A number is read as it was written. -/
theorem getI_put (before more : List Nat) (z : Int) (h1 : -9223372036854775808 ≤ z) (h2 : z ≤ 9223372036854775807) :
    getI (before ++ put (fold z) ++ more) before.length = (z, (before.length : Int) + (put (fold z)).length, 0) := by
  have hlt := fold_lt h1 h2
  unfold getI
  rw [if_neg (by simp only [List.length_append]; omega)]
  rw [Int.toNat_natCast, List.append_assoc, List.drop_left, scan_put (fold z + 1) (fold z) 0 0 more (by omega) (by have := put_len10 hlt; omega) (by omega) (by omega)]
  simp [unfold_fold]
theorem getI_short (before : List Nat) (z : Int) (j : Nat) (h1 : -9223372036854775808 ≤ z) (h2 : z ≤ 9223372036854775807) (hj : j < (put (fold z)).length) :
    getI (before ++ (put (fold z)).take j) before.length = (0, 0, 2) := by
  have hlt := fold_lt h1 h2
  unfold getI
  rw [if_neg (by simp only [List.length_append]; omega)]
  rw [Int.toNat_natCast, List.drop_left, scan_short (fold z + 1) (fold z) 0 0 j (by omega) (by have := put_len10 hlt; omega) hj]
  rfl
end Go.Proofs.Ytopmmodcaoaaeaa.Wire
