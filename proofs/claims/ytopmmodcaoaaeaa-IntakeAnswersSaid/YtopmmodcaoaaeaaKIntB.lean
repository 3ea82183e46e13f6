/- Lists of ints as memory. No condition. -/
import Derived.Test.YtopmmodcaoaaeaaKSrc
namespace Go.Proofs.Ytopmmodcaoaaeaa
open Go.RowKit Sy
set_option linter.unusedVariables false
set_option linter.unusedSimpArgs false
@[go_sem] def blkI (l : List Int) : Blk := .list 3 1 (l.map encI)
@[go_sem] theorem flat_encI : ∀ l : List Int, flatTs (l.map encI)
  | [] => by simp [flatTs]
  | p :: r => by simp [flatTs, flatT, encI, flat_encI r]
theorem takeI_step {α : Type} {a b : List α} {k : Nat} {x : α} (ha : a[k]? = some x) (hb : b[k]? = some x) (h : a.take k = b.take k) : a.take (k + 1) = b.take (k + 1) := by
  rw [take_snoc ha, take_snoc hb, h]
theorem takeI_ne {α : Type} {a b : List α} {k : Nat} {x y : α} (ha : a[k]? = some x) (hb : b[k]? = some y) (e : x ≠ y) : a ≠ b := by
  rintro rfl
  rw [ha] at hb
  exact e (Option.some.inj hb)
end Go.Proofs.Ytopmmodcaoaaeaa
