/- PutInt as a contract. No condition. -/
import Derived.Test.YtopmmodcaoaaeaaFacts
import Derived.Test.YtopmmodcaoaaeaaWBits
namespace Go.Proofs.Ytopmmodcaoaaeaa
open Go.RowKit Sy
open Go.IntWalk renaming iteOmega → iO, toNatUp → tN
set_option linter.unusedVariables false
set_option linter.unusedSimpArgs false
@[go_sem] def encUs (l : List Nat) : T := .sl 1 (l.map encU)
@[go_sem] def blkU (l : List Nat) : Blk := .list 5 1 (l.map encU)
@[go_sem] theorem flat_encU : ∀ l : List Nat, flatTs (l.map encU)
  | [] => by simp [flatTs]
  | p :: r => by simp [flatTs, flatT, encU, flat_encU r]
def putZ (z : Int) : List Nat := Wire.put (Wire.fold z)
end Go.Proofs.Ytopmmodcaoaaeaa
