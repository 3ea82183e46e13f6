/- The encoding of numbers as plain arithmetic: folding, groups of seven bits, reading back. No condition. -/
namespace Go.Proofs.Ytnekjbmhmpfkgaa.Wire
set_option linter.unusedVariables false
set_option linter.unusedSimpArgs false
/-- The folded number. -/
def fold (z : Int) : Nat := if 0 ≤ z then z.toNat * 2 else (-(z + 1)).toNat * 2 + 1
def unfold_ (u : Nat) : Int := if u % 2 = 0 then (u / 2 : Nat) else -((u / 2 : Nat) : Int) - 1
/-- The groups of seven bits, the least first. -/
def put (u : Nat) : List Nat := if _h : u < 128 then [u] else (u % 128 + 128) :: put (u / 128)
termination_by u
decreasing_by omega
theorem fold_lt {z : Int} (h1 : -9223372036854775808 ≤ z) (h2 : z ≤ 9223372036854775807) : fold z < 18446744073709551616 := by
  unfold fold; split <;> omega
theorem unfold_fold (z : Int) : unfold_ (fold z) = z := by
  unfold unfold_ fold; split <;> split <;> omega
theorem put_small {u : Nat} (h : u < 128) : put u = [u] := by rw [put, dif_pos h]
theorem put_big {u : Nat} (h : 128 ≤ u) : put u = (u % 128 + 128) :: put (u / 128) := by rw [put, dif_neg (by omega)]
theorem put_pos (u : Nat) : 1 ≤ (put u).length := by
  rcases Nat.lt_or_ge u 128 with h | h
  · simp [put_small h]
  · simp [put_big h]
theorem put_len : ∀ (n u : Nat), u < 128 ^ (n + 1) → (put u).length ≤ n + 1
  | 0, u, h => by rw [put_small (by omega)]; simp
  | n + 1, u, h => by
    rcases Nat.lt_or_ge u 128 with h1 | h1
    · simp [put_small h1]
    · rw [put_big h1, List.length_cons]
      have := put_len n (u / 128) (by rw [Nat.pow_succ] at h; omega)
      omega
theorem put_len10 {u : Nat} (h : u < 18446744073709551616) : (put u).length ≤ 10 := put_len 9 u (by omega)
theorem or128 : ∀ x, x < 256 → x ||| 128 = x % 128 + 128 := by decide +kernel

/-- Reading: the bytes from the index on, how many have been read, the number so far: (the number, how many bytes it took, the error). -/
def scan : List Nat → Nat → Nat → Int × Nat × Int
  | [], k, _ => if k < 10 then (0, 0, 2) else (0, 0, 3)
  | c :: r, k, u =>
    if k < 10 then
      if 128 ≤ c then scan r (k + 1) ((u + c % 128 * 2 ^ (7 * k)) % 18446744073709551616)
      else if (k = 9 ∧ 1 < c) ∨ (0 < k ∧ c = 0) then (0, 0, 3)
      else (unfold_ ((u + c % 128 * 2 ^ (7 * k)) % 18446744073709551616), k + 1, 0)
    else (0, 0, 3)
theorem scan_more {c k u : Nat} {r : List Nat} (hk : k < 10) (hc : 128 ≤ c) : scan (c :: r) k u = scan r (k + 1) ((u + c % 128 * 2 ^ (7 * k)) % 18446744073709551616) := by
  rw [scan, if_pos hk, if_pos hc]
theorem scan_bad {c k u : Nat} {r : List Nat} (hk : k < 10) (hc : c < 128) (h : (k = 9 ∧ 1 < c) ∨ (0 < k ∧ c = 0)) : scan (c :: r) k u = (0, 0, 3) := by
  rw [scan, if_pos hk, if_neg (by omega), if_pos h]
theorem scan_good {c k u : Nat} {r : List Nat} (hk : k < 10) (hc : c < 128) (h : ¬ ((k = 9 ∧ 1 < c) ∨ (0 < k ∧ c = 0))) :
    scan (c :: r) k u = (unfold_ ((u + c % 128 * 2 ^ (7 * k)) % 18446744073709551616), k + 1, 0) := by
  rw [scan, if_pos hk, if_neg (by omega), if_neg h]
theorem scan_ten {k u : Nat} {r : List Nat} (hk : ¬ k < 10) : scan r k u = (0, 0, 3) := by
  cases r <;> simp [scan, hk]
theorem step_lt {k u c : Nat} (hk : k < 9) (hu : u < 2 ^ (7 * k)) : (u + c % 128 * 2 ^ (7 * k)) % 18446744073709551616 < 2 ^ (7 * (k + 1)) := by
  refine Nat.lt_of_le_of_lt (Nat.mod_le _ _) ?_
  rw [show 7 * (k + 1) = 7 + 7 * k by omega, Nat.pow_add]
  generalize 2 ^ (7 * k) = p at *
  have h2 : c % 128 ≤ 127 := by omega
  have h3 := Nat.mul_le_mul_right p h2
  omega
/-- The number at an index, the index behind it, the error. -/
def getI (bs : List Nat) (at_ : Int) : Int × Int × Int :=
  if at_ < 0 ∨ (bs.length : Int) < at_ then (0, 0, 1)
  else
    let r := scan (bs.drop at_.toNat) 0 0
    if r.2.2 = 0 then (r.1, at_ + r.2.1, 0) else (0, 0, r.2.2)
end Go.Proofs.Ytnekjbmhmpfkgaa.Wire
