/- The sanity check of the laws as a contract: it answers true. No condition. -/
import Derived.Test.YtnekjbmhmpfkgaaSum
import Derived.Test.YtnekjbmhmpfkgaaInt
import Derived.Test.YtnekjbmhmpfkgaaStuff
namespace Go.Proofs.Ytnekjbmhmpfkgaa
open Go.RowKit
set_option linter.unusedVariables false
set_option linter.unusedSimpArgs false

set_option maxRecDepth 100000 in
set_option maxHeartbeats 1000000 in
theorem awake_any (w : World) : Calls Try.prog 8 #[] w fun e w' => e = .returned (.bool true) ∧ Below w.heap.size w w' := by
  go_enter Try.func8, Try.ntmps8
  go_wp2_with fail
  refine (int_any _ _ _ [128, 1] 0 _ (NRow.litg rfl _ rfl _ rfl (by unfold maxLen; decide)) (by decide) (by decide)).mono ?_
  rintro e w1 ⟨rfl, rfl⟩
  rw [show Trip (Wire.getI [128, 1] 0) = .tuple #[.int .i64 64, .int .i64 2, .int .i64 0] from rfl]
  go_wp2_with fail
  refine (stuff_any _ _ _ [1, 126, 125] _ (NRow.litg (by simp) _ rfl _ rfl (by unfold maxLen; decide)) (by decide) (by decide)).mono ?_
  rintro e w1 ⟨x1, n1, cap1, rfl, ho1, hb1⟩
  have hb2 : Below w.heap.size w w1 := (((Below.refl _ _).alloc (Nat.le_refl _) _).alloc (by simp) _).trans (hb1.mono (by simp; omega))
  have kc := run_str (P := Try.prog) w1 22 5 9 Try.underlying22 Try.underlying5 Try.underlying9 ho1.row
  rw [show str (Wire.stuff [1, 126, 125]) = ⟨#[126, 1, 125, 94, 125, 93, 124]⟩ from rfl] at kc
  have kd := fun (w : World) (C : Array Value) (n c : Nat) => Lib.run_convert_bytes_const (P := Try.prog) w 22 5 C n c Try.underlying22 Try.underlying5
  go_wp2_with fail
  clear kc kd
  refine (sum_any _ _ _ [49, 50, 51, 52, 53, 54, 55, 56, 57] _ (NRow.markg rfl _ rfl _ _ rfl (by unfold maxLen; decide)) (by decide)).mono ?_
  rintro e w2 ⟨rfl, hb3⟩
  have hb4 : Below w.heap.size w w2 := (hb2.alloc hb2.size _).trans (hb3.mono (by have := hb2.size; simp; omega))
  rw [show ((Crc.sum [49, 50, 51, 52, 53, 54, 55, 56, 57] : Nat) : Int) = 3421780262 by decide +kernel]
  go_wp2_with fail
  go_ret
  exact ⟨rfl, hb4⟩
end Go.Proofs.Ytnekjbmhmpfkgaa
