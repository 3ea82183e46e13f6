/-
  No cell of these rows narrows 'for every input' (looked for: loops, veiled, ifaces, maps, wideKeys, modest, calm, conditions, laid).
  DERIVED. THE GIVEN ROWS OF THIS SEAT. 5 by the template 'for every input the law returns true; each argument reads behind the call as it read before'; 0 by the template 'total and deterministic' (their statements: YtlkgoddhbdnfaaaTotals.lean).
  GIVEN WITH THE SEED: the statements are not yours to turn. If you find one false, say at which input.
  Laid BY PROGRAM, IN A SANDBOX (cutbox-rows.mjs): the forced cells as the released guide's own fill.sh prints them over the translation 4efa0f7ce943e14a… (all of the seat's roots in one cut). By AI agents, Wed Nov 11 2026. No macro, syntax, notation, axiom, sorry.
-/
import Derived.Test.YtlkgoddhbdnfaaaChecked
import GoSem.Claim
import GoSem.ClaimJoined
import GoSem.ClaimMapViews
import Derived.JoinedTies
import Derived.KernelRfl
namespace Go.Proofs.Ytlkgoddhbdnfaaa
/- THE CELL 'sum', in the pinned program and in every row, IS THE sha256 OF THE DUMP (.gsa) THAT YtlkgoddhbdnfaaaProg.lean LOADS. Nothing in Lean hashes anything: it is a label: what it is worth is what the hold of that sum in a sandbox is worth. -/
noncomputable def Try.pinned : Pinned := { name := "ytlkgoddhbdnfaaa", sum := "4efa0f7ce943e14a27d8e9bd19f04b87f7b955f2d6696487e145485eb7858373", checked := Try.checked }
namespace Rows
def none {H : Type} : Left H := { results := [], args := [] }

/-- 'batchlinelaw34.BalanceCovers': WHATEVER THE INPUT: true; the input reads as it did. -/
def balanceCoversSpec : ChangeSpec := { name := "balanceCovers", fn := fun _ => fun
  | [d1, d2] => { results := [.lit (.bool true)], args := [d1, d2] }
  | _ => none }
def balanceCoversRow : OpenClaim := { program := "ytlkgoddhbdnfaaa", sum := "4efa0f7ce943e14a27d8e9bd19f04b87f7b955f2d6696487e145485eb7858373", func := "batchline/batchlinelaw34.BalanceCovers", spec := "balanceCovers", unfollowed := true, recurses := true, apart := false }
def BalanceCoversSaid : Prop := balanceCoversRow.holds Try.pinned (OpenSpec.ofChange balanceCoversSpec)

/-- ITS FALSE NEIGHBOUR: 'it returns false'. Refute it at one input. -/
def balanceCoversWrong : ChangeSpec := { name := "balanceCovers", fn := fun _ => fun
  | [d1, d2] => { results := [.lit (.bool false)], args := [d1, d2] }
  | _ => none }
def BalanceCoversWrongFalsely : Prop := balanceCoversRow.holds Try.pinned (OpenSpec.ofChange balanceCoversWrong)

/-- 'batchlinelaw34.BalanceShift': WHATEVER THE INPUT: true; the input reads as it did. -/
def balanceShiftSpec : ChangeSpec := { name := "balanceShift", fn := fun _ => fun
  | [d1, d2, d3, d4] => { results := [.lit (.bool true)], args := [d1, d2, d3, d4] }
  | _ => none }
def balanceShiftRow : OpenClaim := { program := "ytlkgoddhbdnfaaa", sum := "4efa0f7ce943e14a27d8e9bd19f04b87f7b955f2d6696487e145485eb7858373", func := "batchline/batchlinelaw34.BalanceShift", spec := "balanceShift", unfollowed := true, recurses := true, apart := false }
def BalanceShiftSaid : Prop := balanceShiftRow.holds Try.pinned (OpenSpec.ofChange balanceShiftSpec)

/-- ITS FALSE NEIGHBOUR: 'it returns false'. Refute it at one input. -/
def balanceShiftWrong : ChangeSpec := { name := "balanceShift", fn := fun _ => fun
  | [d1, d2, d3, d4] => { results := [.lit (.bool false)], args := [d1, d2, d3, d4] }
  | _ => none }
def BalanceShiftWrongFalsely : Prop := balanceShiftRow.holds Try.pinned (OpenSpec.ofChange balanceShiftWrong)

/-- 'batchlinelaw34.BalanceMade': WHATEVER THE INPUT: true; the input reads as it did. -/
def balanceMadeSpec : ChangeSpec := { name := "balanceMade", fn := fun _ => fun
  | [d1, d2, d3, d4, d5, d6] => { results := [.lit (.bool true)], args := [d1, d2, d3, d4, d5, d6] }
  | _ => none }
def balanceMadeRow : OpenClaim := { program := "ytlkgoddhbdnfaaa", sum := "4efa0f7ce943e14a27d8e9bd19f04b87f7b955f2d6696487e145485eb7858373", func := "batchline/batchlinelaw34.BalanceMade", spec := "balanceMade", unfollowed := true, recurses := true, apart := false }
def BalanceMadeSaid : Prop := balanceMadeRow.holds Try.pinned (OpenSpec.ofChange balanceMadeSpec)

/-- ITS FALSE NEIGHBOUR: 'it returns false'. Refute it at one input. -/
def balanceMadeWrong : ChangeSpec := { name := "balanceMade", fn := fun _ => fun
  | [d1, d2, d3, d4, d5, d6] => { results := [.lit (.bool false)], args := [d1, d2, d3, d4, d5, d6] }
  | _ => none }
def BalanceMadeWrongFalsely : Prop := balanceMadeRow.holds Try.pinned (OpenSpec.ofChange balanceMadeWrong)

/-- 'batchlinelaw34.BalanceRaw': WHATEVER THE INPUT: true; the input reads as it did. -/
def balanceRawSpec : ChangeSpec := { name := "balanceRaw", fn := fun _ => fun
  | [d1, d2, d3, d4, d5] => { results := [.lit (.bool true)], args := [d1, d2, d3, d4, d5] }
  | _ => none }
def balanceRawRow : OpenClaim := { program := "ytlkgoddhbdnfaaa", sum := "4efa0f7ce943e14a27d8e9bd19f04b87f7b955f2d6696487e145485eb7858373", func := "batchline/batchlinelaw34.BalanceRaw", spec := "balanceRaw", unfollowed := true, recurses := true, apart := false }
def BalanceRawSaid : Prop := balanceRawRow.holds Try.pinned (OpenSpec.ofChange balanceRawSpec)

/-- ITS FALSE NEIGHBOUR: 'it returns false'. Refute it at one input. -/
def balanceRawWrong : ChangeSpec := { name := "balanceRaw", fn := fun _ => fun
  | [d1, d2, d3, d4, d5] => { results := [.lit (.bool false)], args := [d1, d2, d3, d4, d5] }
  | _ => none }
def BalanceRawWrongFalsely : Prop := balanceRawRow.holds Try.pinned (OpenSpec.ofChange balanceRawWrong)

/-- 'batchlinelaw34.BalanceAdds': WHATEVER THE INPUT: true; the input reads as it did. -/
def balanceAddsSpec : ChangeSpec := { name := "balanceAdds", fn := fun _ => fun
  | [d1, d2, d3, d4] => { results := [.lit (.bool true)], args := [d1, d2, d3, d4] }
  | _ => none }
def balanceAddsRow : OpenClaim := { program := "ytlkgoddhbdnfaaa", sum := "4efa0f7ce943e14a27d8e9bd19f04b87f7b955f2d6696487e145485eb7858373", func := "batchline/batchlinelaw34.BalanceAdds", spec := "balanceAdds", unfollowed := true, recurses := true, apart := false }
def BalanceAddsSaid : Prop := balanceAddsRow.holds Try.pinned (OpenSpec.ofChange balanceAddsSpec)

/-- ITS FALSE NEIGHBOUR: 'it returns false'. Refute it at one input. -/
def balanceAddsWrong : ChangeSpec := { name := "balanceAdds", fn := fun _ => fun
  | [d1, d2, d3, d4] => { results := [.lit (.bool false)], args := [d1, d2, d3, d4] }
  | _ => none }
def BalanceAddsWrongFalsely : Prop := balanceAddsRow.holds Try.pinned (OpenSpec.ofChange balanceAddsWrong)

/- THE SECOND FORM. 'bulk': how many values and letters a reading holds, each counted each time it is reached (what is shared counts as often as it is met; a slice's spare places count too). A statement '..UptoSaid' is the law's where the arguments, and the package variables that the reading takes, are together of bulk at most 1048576: NARROWER than '..Said'. Prove '..Said' where nothing that the law and all that it calls make is longer than what came in: it says more and counts as full. Else prove '..UptoSaid'. A law counts once. -/
mutual
def uptoBulk {H : Type} : DataW H → Nat
  | .lit (.string bytes) => bytes.length + 1
  | .lit _ => 1
  | .nil => 1
  | .ptr d => uptoBulk d + 1
  | .slice elems spare => uptoBulkAll elems + uptoBulkAll spare + 1
  | .agg parts => uptoBulkAll parts + 1
  | .iface _ d => uptoBulk d + 1
  | .map entries => uptoBulkEntries entries + 1
  | .held _ => 1
def uptoBulkAll {H : Type} : List (DataW H) → Nat
  | [] => 0
  | d :: r => uptoBulk d + uptoBulkAll r
def uptoBulkEntries {H : Type} : List (Lit × DataW H) → Nat
  | [] => 0
  | x :: r => uptoBulkEntry x + uptoBulkEntries r
def uptoBulkEntry {H : Type} : Lit × DataW H → Nat
  | (.string bytes, d) => bytes.length + uptoBulk d + 1
  | (_, d) => uptoBulk d + 1
 end
def uptoSmall : (H : Type) → List (DataW H) → Bool := fun _ ds => decide (uptoBulkAll ds ≤ 1048576)
def OpenSpec.upto (s : _root_.Go.ChangeSpec) : _root_.Go.OpenSpec := { _root_.Go.OpenSpec.ofChange s with cond := some uptoSmall }

/-- 'batchlinelaw34.BalanceCovers', WHERE WHAT IT READS IS OF BULK AT MOST 1048576: true; the input reads as it did. -/
def balanceCoversUptoRow : OpenClaim := { program := "ytlkgoddhbdnfaaa", sum := "4efa0f7ce943e14a27d8e9bd19f04b87f7b955f2d6696487e145485eb7858373", func := "batchline/batchlinelaw34.BalanceCovers", spec := "balanceCovers", unfollowed := true, recurses := true, apart := false, narrowed := true }
def BalanceCoversUptoSaid : Prop := balanceCoversUptoRow.holds Try.pinned (OpenSpec.upto balanceCoversSpec)

/-- 'batchlinelaw34.BalanceShift', WHERE WHAT IT READS IS OF BULK AT MOST 1048576: true; the input reads as it did. -/
def balanceShiftUptoRow : OpenClaim := { program := "ytlkgoddhbdnfaaa", sum := "4efa0f7ce943e14a27d8e9bd19f04b87f7b955f2d6696487e145485eb7858373", func := "batchline/batchlinelaw34.BalanceShift", spec := "balanceShift", unfollowed := true, recurses := true, apart := false, narrowed := true }
def BalanceShiftUptoSaid : Prop := balanceShiftUptoRow.holds Try.pinned (OpenSpec.upto balanceShiftSpec)

/-- 'batchlinelaw34.BalanceMade', WHERE WHAT IT READS IS OF BULK AT MOST 1048576: true; the input reads as it did. -/
def balanceMadeUptoRow : OpenClaim := { program := "ytlkgoddhbdnfaaa", sum := "4efa0f7ce943e14a27d8e9bd19f04b87f7b955f2d6696487e145485eb7858373", func := "batchline/batchlinelaw34.BalanceMade", spec := "balanceMade", unfollowed := true, recurses := true, apart := false, narrowed := true }
def BalanceMadeUptoSaid : Prop := balanceMadeUptoRow.holds Try.pinned (OpenSpec.upto balanceMadeSpec)

/-- 'batchlinelaw34.BalanceRaw', WHERE WHAT IT READS IS OF BULK AT MOST 1048576: true; the input reads as it did. -/
def balanceRawUptoRow : OpenClaim := { program := "ytlkgoddhbdnfaaa", sum := "4efa0f7ce943e14a27d8e9bd19f04b87f7b955f2d6696487e145485eb7858373", func := "batchline/batchlinelaw34.BalanceRaw", spec := "balanceRaw", unfollowed := true, recurses := true, apart := false, narrowed := true }
def BalanceRawUptoSaid : Prop := balanceRawUptoRow.holds Try.pinned (OpenSpec.upto balanceRawSpec)

/-- 'batchlinelaw34.BalanceAdds', WHERE WHAT IT READS IS OF BULK AT MOST 1048576: true; the input reads as it did. -/
def balanceAddsUptoRow : OpenClaim := { program := "ytlkgoddhbdnfaaa", sum := "4efa0f7ce943e14a27d8e9bd19f04b87f7b955f2d6696487e145485eb7858373", func := "batchline/batchlinelaw34.BalanceAdds", spec := "balanceAdds", unfollowed := true, recurses := true, apart := false, narrowed := true }
def BalanceAddsUptoSaid : Prop := balanceAddsUptoRow.holds Try.pinned (OpenSpec.upto balanceAddsSpec)

end Rows
end Go.Proofs.Ytlkgoddhbdnfaaa
