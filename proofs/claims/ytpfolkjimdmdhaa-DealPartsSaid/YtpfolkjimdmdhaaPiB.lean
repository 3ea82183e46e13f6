/- Pieces: how they lie in memory. No condition. -/
import Derived.Test.YtpfolkjimdmdhaaFacts
import Derived.Test.YtpfolkjimdmdhaaPcPlain
namespace Go.Proofs.Ytpfolkjimdmdhaa
open Go.RowKit Sy
set_option linter.unusedVariables false
set_option linter.unusedSimpArgs false
@[go_sem] def encP (p : Int × Int) : T := .agg [.int p.1, .int p.2]
@[go_sem] def encPs (l : List (Int × Int)) : T := .sl 2 (l.map encP)
@[go_sem] def blkP (l : List (Int × Int)) : Blk := .list 38 2 (l.map encP)
abbrev Lit (p : Int × Int) : Prop := (0 ≤ p.1 ∧ p.1 < 1000) ∧ 0 ≤ p.2 ∧ p.2 ≤ 1000000
@[go_sem] theorem flat_encP : ∀ l : List (Int × Int), flatTs (l.map encP)
  | [] => by simp [flatTs]
  | p :: r => by simp [flatTs, flatT, encP, flat_encP r]
end Go.Proofs.Ytpfolkjimdmdhaa
