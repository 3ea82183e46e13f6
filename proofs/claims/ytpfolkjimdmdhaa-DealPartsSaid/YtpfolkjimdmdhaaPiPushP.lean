/- Pushes and places as plain facts. No condition. -/
import Derived.Test.YtpfolkjimdmdhaaPiValid
namespace Go.Proofs.Ytpfolkjimdmdhaa
open Go.RowKit Sy
set_option linter.unusedVariables false
set_option linter.unusedSimpArgs false
theorem push_bad {f g : List (Int × Int)} {back : Bool} (h : ¬ (Pc.valid f = true ∧ Pc.valid g = true)) : Pc.push f g back = ([], [], 9) := by
  unfold Pc.push; rw [if_neg h]
theorem push_long {f g : List (Int × Int)} {back : Bool} (h1 : Pc.valid f = true) (h2 : Pc.valid g = true) (h : ¬ ((Pc.shift f g back).1.length ≤ 200 ∧ (Pc.shift f g back).2.length ≤ 200)) : Pc.push f g back = ([], [], 4) := by
  unfold Pc.push; rw [if_pos ⟨h1, h2⟩, if_neg h]
theorem push_ok {f g : List (Int × Int)} {back : Bool} (h1 : Pc.valid f = true) (h2 : Pc.valid g = true) (h : (Pc.shift f g back).1.length ≤ 200 ∧ (Pc.shift f g back).2.length ≤ 200) : Pc.push f g back = ((Pc.shift f g back).1, (Pc.shift f g back).2, 0) := by
  unfold Pc.push; rw [if_pos ⟨h1, h2⟩, if_pos h]
theorem sane_app {f g : List (Int × Int)} (h1 : Pc.Vd f) (h2 : Pc.Vd g) : Pc.Sane (f ++ g) := by
  refine ⟨by rw [List.length_append]; have := h1.len; have := h2.len; omega, fun p hp => ?_⟩
  rcases List.mem_append.1 hp with hp | hp
  · exact h1.sane.each p hp
  · exact h2.sane.each p hp
theorem at_cons (p : Int × Int) (r : List (Int × Int)) (k : Int) : Pc.atIn (p :: r) k = if k < p.2 then p.1 else Pc.atIn r (k - p.2) := rfl
theorem at_nil (k : Int) : Pc.atIn [] k = -1 := rfl
end Go.Proofs.Ytpfolkjimdmdhaa
