/- More small general lemmas for the walks: the rest of a slice. No condition. -/
import Derived.Test.YtnekjbmhmpfkgaaLib
namespace Go.Proofs.Ytnekjbmhmpfkgaa
open Go.RowKit
set_option linter.unusedVariables false
set_option linter.unusedSimpArgs false

theorem Row.drop {w : World} {b off n cap s : Nat} {xs : List Value} (h : Row w (some ⟨b, off, none⟩) n cap s xs) {k : Nat} (hk : k ≤ n) : Row w (some ⟨b, off + k * s, none⟩) (n - k) (cap - k) s (xs.drop (k * s)) := by
  have h1 := h.le
  have h2 := h.capLe
  refine ⟨by omega, by unfold maxLen at *; omega, ?_, (fun e => by cases e), ?_⟩
  · rw [List.length_drop, h.len, Nat.sub_mul]
  · rcases h.cells with h0 | ⟨b', off', hx, hlt, hc⟩
    · exact .inl (by omega)
    · cases hx
      refine .inr ⟨b, off + k * s, rfl, hlt, fun j u hu => ?_⟩
      rw [Nat.add_assoc]
      rw [List.getElem?_drop] at hu
      exact hc _ u hu
theorem NRow.drop {k : IntKind} {w : World} {b off n cap : Nat} {bs : List Nat} (h : NRow k w (some ⟨b, off, none⟩) n cap bs) {j : Nat} (hj : j ≤ n) : NRow k w (some ⟨b, off + j, none⟩) (n - j) (cap - j) (bs.drop j) := by
  have := Row.drop h hj
  rw [Nat.mul_one] at this
  unfold NRow
  rw [show nats k (bs.drop j) = (nats k bs).drop j by simp [nats, List.map_drop]]
  exact this
theorem IRow.take {k : IntKind} {w : World} {x : Option Addr} {n cap : Nat} {bs : List Int} (h : IRow k w x n cap bs) {j : Nat} (hj : j ≤ n) : IRow k w x j cap (bs.take j) := by
  have := Row.take h hj
  rw [Nat.mul_one] at this
  unfold IRow
  rw [show ints k (bs.take j) = (ints k bs).take j by simp [ints, List.map_take]]
  exact this
/-- A literal list of numbers that has just been laid. -/
theorem IRow.litg {w : World} {g : Nat} (hg : g = w.heap.size) {k : IntKind} (bs : List Int) {cs : Array Value} (hc : cs = (ints k bs).toArray) (e : TypeId) {n : Nat} (hn : bs.length = n) (hm : n ≤ maxLen) :
    IRow k (w.alloc (.cells cs e)) (some ⟨g, 0, .none⟩) n n bs := by
  subst hc
  have := (Own.litg hg (ints k bs).toArray e 1 n (Nat.zero_le _) hm (by simp [ints_length, hn])).row
  exact this
end Go.Proofs.Ytnekjbmhmpfkgaa
