/- The document's own ways (the references of chapter 02) as plain lists and numbers, and that they come to the same. No condition. -/
import Derived.Test.YtopmmodcaoaaeaaCrcPlain
import Derived.Test.YtopmmodcaoaaeaaWirePlain
import Derived.Test.YtopmmodcaoaaeaaIntPlain
namespace Go.Proofs.Ytopmmodcaoaaeaa
set_option linter.unusedVariables false
set_option linter.unusedSimpArgs false
namespace Crc
theorem xor4 (a b c d : Nat) : (a ^^^ b) ^^^ (c ^^^ d) = (a ^^^ c) ^^^ (b ^^^ d) := by
  rw [Nat.xor_assoc, ← Nat.xor_assoc b, Nat.xor_comm b c, Nat.xor_assoc c, ← Nat.xor_assoc a]
theorem mask_xor (x y : Nat) : 3988292384 * ((x ^^^ y) &&& 1) % 4294967296 = (3988292384 * (x &&& 1) % 4294967296) ^^^ (3988292384 * (y &&& 1) % 4294967296) := by
  have h1 : (x ^^^ y) &&& 1 = (x &&& 1) ^^^ (y &&& 1) := by rw [Nat.and_xor_distrib_right]
  rw [h1, Nat.and_one_is_mod, Nat.and_one_is_mod]
  rcases Nat.mod_two_eq_zero_or_one x with hx | hx <;> rcases Nat.mod_two_eq_zero_or_one y with hy | hy <;> rw [hx, hy] <;> decide
theorem bit_xor (x y : Nat) : bit (x ^^^ y) = bit x ^^^ bit y := by
  have h := xor_div x y 1
  simp only [Nat.pow_one] at h
  unfold bit
  rw [h, mask_xor, xor4]
theorem bitsN_xor (x y : Nat) : ∀ n, bitsN n (x ^^^ y) = bitsN n x ^^^ bitsN n y
  | 0 => rfl
  | n + 1 => by simp only [bitsN]; rw [bitsN_xor x y n, bit_xor]
theorem bit_even (x : Nat) : bit (2 * x) = x := by
  unfold bit
  rw [Nat.and_one_is_mod, Nat.mul_mod_right]
  simp
theorem bitsN_shift (x : Nat) : ∀ n m, bitsN n (2 ^ (n + m) * x) = 2 ^ m * x
  | 0, m => by simp [bitsN]
  | n + 1, m => by
    have h := bitsN_shift x n (m + 1)
    simp only [bitsN]
    rw [show n + 1 + m = n + (m + 1) by omega, h, show 2 ^ (m + 1) * x = 2 * (2 ^ m * x) by rw [Nat.pow_succ]; rw [Nat.mul_comm (2 ^ m) 2, Nat.mul_assoc], bit_even]
theorem split256 {r c : Nat} (hc : c < 256) : r ^^^ c = ((r % 256) ^^^ c) ^^^ (256 * (r / 256)) := by
  have h1 : r = (r % 256) ^^^ (256 * (r / 256)) := by
    have h2 := Nat.two_pow_add_eq_or_of_lt (i := 8) (show r % 256 < 2 ^ 8 by omega) (r / 256)
    have h3 : 256 * (r / 256) + r % 256 = r := by omega
    have h4 : (256 * (r / 256)) &&& (r % 256) = 0 := by
      apply Nat.eq_of_testBit_eq
      intro i
      rw [Nat.testBit_and, Nat.zero_testBit]
      by_cases hi : i < 8
      · rw [show 256 * (r / 256) = 2 ^ 8 * (r / 256) from rfl, Nat.testBit_two_pow_mul]
        simp [show ¬ 8 ≤ i by omega]
      · rw [Nat.testBit_lt_two_pow (show r % 256 < 2 ^ i by
          have : 2 ^ 8 ≤ 2 ^ i := Nat.pow_le_pow_right (by omega) (by omega)
          omega), Bool.and_false]
    apply Nat.eq_of_testBit_eq
    intro i
    have e : r = (256 * (r / 256)) ||| (r % 256) := by
      have h2' : 256 * (r / 256) + r % 256 = 256 * (r / 256) ||| r % 256 := h2
      rw [← h2']; exact h3.symm
    conv => lhs; rw [e]
    rw [Nat.testBit_or, Nat.testBit_xor]
    have h5 := congrArg (fun n => n.testBit i) h4
    simp only [Nat.testBit_and, Nat.zero_testBit] at h5
    cases h6 : (256 * (r / 256)).testBit i <;> cases h7 : (r % 256).testBit i <;> first | rfl | (rw [h6, h7] at h5; cases h5)
  conv => lhs; rw [h1]
  rw [Nat.xor_assoc, Nat.xor_comm (256 * (r / 256)) c, ← Nat.xor_assoc]
/-- Eight bits at once are the table's step. -/
theorem bits_upd {r c : Nat} (hc : c < 256) : bitsN 8 (r ^^^ c) = upd r c := by
  rw [split256 hc, bitsN_xor]
  have h := bitsN_shift (r / 256) 8 0
  simp only [Nat.pow_zero, Nat.one_mul, Nat.add_zero] at h
  unfold upd tab
  have h' : bitsN 8 (256 * (r / 256)) = r / 256 := h
  rw [h']
end Crc
namespace Wire
/-- The reference's reading of a frame's inside: what is left from an index on. -/
def gath : List Nat → List Nat
  | [] => []
  | [_] => []
  | c :: d :: r => if c = 125 then (d ^^^ 32) :: gath r else c :: gath (d :: r)
theorem gath_body : ∀ (bs : List Nat), gath (body bs ++ [124]) = bs
  | [] => rfl
  | c :: bs => by
    have e : body (c :: bs) = esc c ++ body bs := rfl
    rw [e]
    by_cases hs : spec c = true
    · rw [esc_yes hs]
      simp only [List.cons_append, List.nil_append, gath, if_true]
      rw [xor32, gath_body bs]
    · have hs' : spec c = false := by simpa using hs
      have h5 : c ≠ 125 := fun h => hs (spec_iff.2 (.inr (.inr h)))
      rw [esc_no hs']
      simp only [List.cons_append, List.nil_append]
      have ih := gath_body bs
      cases hb : body bs ++ [124] with
      | nil => simp at hb
      | cons x r =>
        rw [hb] at ih
        simp only [gath]
        rw [if_neg h5, ih]
/-- The reference's answer. -/
def refUnstuff (bs : List Nat) : List Nat × Int :=
  if bs.length < 2 then ([], 2) else if stuff (gath (bs.drop 1)) = bs then (gath (bs.drop 1), 0) else ([], 3)
theorem refUnstuff_eq (bs : List Nat) : refUnstuff bs = unstuff bs := by
  unfold refUnstuff
  by_cases h2 : bs.length < 2
  · rw [if_pos h2, unstuff, if_pos h2]
  · rw [if_neg h2]
    by_cases hs : stuff (gath (bs.drop 1)) = bs
    · rw [if_pos hs]
      have := unstuff_stuff (gath (bs.drop 1))
      rw [hs] at this
      exact this.symm
    · rw [if_neg hs]
      by_cases h0 : (unstuff bs).2 = 0
      · exfalso
        have h1 := stuff_unstuff h0
        apply hs
        have h3 : bs.drop 1 = body (unstuff bs).1 ++ [124] := by
          conv => lhs; rw [← h1]
          rfl
        rw [h3, gath_body, h1]
      · unfold unstuff at *
        rw [if_neg h2] at *
        split
        · rename_i h01
          rw [if_pos h01] at h0
          cases hu : usteps (inside bs) ([], false) with
          | none => rfl
          | some p =>
            obtain ⟨out, b⟩ := p
            rw [hu] at h0
            cases b with
            | true => rfl
            | false => exact absurd rfl h0
        · rfl
theorem scan_nine {c u : Nat} {r : List Nat} (h : 1 < c) : scan (c :: r) 9 u = (0, 0, 3) := by
  by_cases h1 : 128 ≤ c
  · rw [scan_more (by omega) h1, scan_ten (by omega)]
  · exact scan_bad (by omega) (by omega) (.inl ⟨rfl, h⟩)
end Wire
end Go.Proofs.Ytopmmodcaoaaeaa
