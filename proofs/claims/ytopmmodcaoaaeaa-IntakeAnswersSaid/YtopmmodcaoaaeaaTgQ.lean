/- What was written is decoded. Plain Lean. -/
import Derived.Test.YtopmmodcaoaaeaaTgE
import Derived.Test.YtopmmodcaoaaeaaTgP
namespace Go.Proofs.Ytopmmodcaoaaeaa
open Go.RowKit Sy
set_option linter.unusedVariables false
set_option linter.unusedSimpArgs false
theorem fold_max {z m : Int} (h1 : -m ≤ z) (h2 : z ≤ m) : (Wire.fold z : Int) ≤ 2 * m := by
  unfold Wire.fold
  split <;> omega
theorem putZ_lenb {z : Int} (b : Nat) (h : Wire.fold z < 128 ^ (b + 1)) : (putZ z).length ≤ b + 1 := Wire.put_len b _ h
theorem vals_len : ∀ {vs : List Int}, (∀ v ∈ vs, okN v) → (putL vs).length ≤ 8 * vs.length
  | [], _ => by simp [putL]
  | v :: r, h => by
    have h1 := vals_len (vs := r) fun m hm => h m (List.mem_cons_of_mem _ hm)
    have h2 := h v List.mem_cons_self
    unfold okN at h2
    have h3 := fold_max h2.1 h2.2
    have h4 := putZ_lenb (z := v) 7 (by omega)
    unfold putL at *
    simp only [List.flatMap_cons, List.length_append, List.length_cons]
    omega
theorem inside_len {t : Tg} (h : TgOk t) : (insideV t).length ≤ 149 := by
  obtain ⟨h1, h2, h3, h4, h5, h6, h7⟩ := h
  have a1 := putZ_lenb (z := t.st) 1 (by have := fold_max (z := t.st) (m := 255) (by omega) (by omega); omega)
  have a2 := putZ_lenb (z := t.ep) 1 (by have := fold_max (z := t.ep) (m := 255) (by omega) (by omega); omega)
  have a3 := putZ_lenb (z := t.sq) 4 (by have := fold_max (z := t.sq) (m := 2147483648) (by omega) (by omega); omega)
  have a4 := putZ_lenb (z := t.tm) 5 (by have := fold_max (z := t.tm) (m := 1099511627776) (by omega) (by omega); omega)
  have a5 := putZ_lenb (z := t.kd) 0 (by have := fold_max (z := t.kd) (m := 63) (by omega) (by omega); omega)
  have a6 := putZ_lenb (z := (t.vs.length : Int)) 0 (by have := fold_max (z := (t.vs.length : Int)) (m := 16) (by omega) (by omega); omega)
  have a7 := vals_len h7
  unfold insideV sealV numsL
  rw [putL_app]
  have e : putL [t.st, t.ep, t.sq, t.tm, t.kd, (t.vs.length : Int)] = putZ t.st ++ (putZ t.ep ++ (putZ t.sq ++ (putZ t.tm ++ (putZ t.kd ++ (putZ (t.vs.length : Int) ++ []))))) := rfl
  rw [e]
  simp only [List.length_append, List.length_cons, List.length_nil]
  omega
theorem dec_enc {t : Tg} (h : TgOk t) : (Wire.stuff (insideV t)).length ≤ 400 ∧ decV (Wire.stuff (insideV t)) = (t, 0) := by
  have hl := inside_len h
  have hs : (Wire.stuff (insideV t)).length ≤ 400 := by
    rw [Wire.stuff_length]
    have := (Wire.body_length (insideV t)).2
    omega
  refine ⟨hs, ?_⟩
  have hsl : (insideV t).length = (putL (numsL t)).length + 4 := by unfold insideV sealV; simp
  have ht : (insideV t).take ((insideV t).length - 4) = putL (numsL t) := by
    rw [hsl, Nat.add_sub_cancel]
    unfold insideV sealV
    rw [List.take_left]
  unfold decV
  rw [if_neg (by omega), Wire.unstuff_stuff]
  dsimp only
  rw [if_neg (by simp), if_neg (by omega), ht, if_neg (by unfold insideV; simp), fields_put h, if_pos rfl]
end Go.Proofs.Ytopmmodcaoaaeaa
