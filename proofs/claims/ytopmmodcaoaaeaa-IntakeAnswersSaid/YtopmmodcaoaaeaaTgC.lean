/- telegram.Encode as a contract. No condition. -/
import Derived.Test.YtopmmodcaoaaeaaTgB
namespace Go.Proofs.Ytopmmodcaoaaeaa
open Go.RowKit Sy
open Go.IntWalk renaming iteOmega → iO, toNatUp → tN
set_option linter.unusedVariables false
set_option linter.unusedSimpArgs false
/-- The numbers of a telegram, and their bytes. -/
def numsL (t : Tg) : List Int := [t.st, t.ep, t.sq, t.tm, t.kd, (t.vs.length : Int)] ++ t.vs
def putL (ns : List Int) : List Nat := ns.flatMap putZ
theorem putL_snoc {ns : List Int} {k : Nat} {n : Int} (h : ns[k]? = some n) : putL (ns.take (k + 1)) = putL (ns.take k) ++ putZ n := by
  unfold putL; rw [take_snoc h, List.flatMap_append]; simp
def i64 (n : Int) : Prop := -9223372036854775808 ≤ n ∧ n ≤ 9223372036854775807
theorem putZ_len {n : Int} (h : i64 n) : (putZ n).length ≤ 10 := Wire.put_len10 (Wire.fold_lt h.1 h.2)
theorem putL_len : ∀ {ns : List Int}, (∀ n ∈ ns, i64 n) → (putL ns).length ≤ 10 * ns.length
  | [], _ => by simp [putL]
  | n :: r, h => by
    have h1 := putL_len (ns := r) fun m hm => h m (List.mem_cons_of_mem _ hm)
    have h2 := putZ_len (h n List.mem_cons_self)
    unfold putL at *
    simp only [List.flatMap_cons, List.length_append, List.length_cons]
    omega
theorem nums_ok {t : Tg} (h : TgOk t) : (numsL t).length ≤ 22 ∧ ∀ n ∈ numsL t, i64 n := by
  obtain ⟨h1, h2, h3, h4, h5, h6, h7⟩ := h
  refine ⟨by unfold numsL; simp; omega, ?_⟩
  intro n hn
  unfold numsL at hn
  unfold i64
  simp only [List.mem_append, List.mem_cons, List.not_mem_nil, or_false] at hn
  rcases hn with hn | hn
  · omega
  · have := h7 n hn
    unfold okN at this
    omega
theorem putZ_b8 (n : Int) : ∀ c ∈ putZ n, c < 256 := Wire.put_bytes _
theorem putL_b8 (ns : List Int) : ∀ c ∈ putL ns, c < 256 := by
  intro c hc
  unfold putL at hc
  obtain ⟨n, _, hc⟩ := List.mem_flatMap.1 hc
  exact putZ_b8 n c hc
theorem sealV_b8 {bs : List Nat} (h : ∀ c ∈ bs, c < 256) : ∀ c ∈ sealV bs, c < 256 := by
  intro c hc
  unfold sealV at hc
  rcases List.mem_append.1 hc with hc | hc
  · exact h c hc
  · simp only [List.mem_cons, List.not_mem_nil, or_false] at hc
    omega
def insideV (t : Tg) : List Nat := sealV (putL (numsL t))
def encV (t : Tg) : List Nat × Int := if TgOk t then (Wire.stuff (insideV t), 0) else ([], 9)
end Go.Proofs.Ytopmmodcaoaaeaa
