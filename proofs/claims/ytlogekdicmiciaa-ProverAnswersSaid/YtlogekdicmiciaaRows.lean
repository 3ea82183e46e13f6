/-
  No cell of these rows narrows 'for every input' (looked for: loops, veiled, ifaces, maps, wideKeys, modest, calm, conditions, laid).
  DERIVED. THE GIVEN ROWS OF THIS SEAT. 5 by the template 'for every input the law returns true; each argument reads behind the call as it read before'; 0 by the template 'total and deterministic' (their statements: YtlogekdicmiciaaTotals.lean).
  GIVEN WITH THE SEED: the statements are not yours to turn. If you find one false, say at which input.
  Laid BY PROGRAM, IN A SANDBOX (cutbox-rows.mjs): the forced cells as the released guide's own fill.sh prints them over the translation 42de091bf8305808… (all of the seat's roots in one cut). By AI agents, Wed Nov 11 2026. No macro, syntax, notation, axiom, sorry.
-/
import Derived.Test.YtlogekdicmiciaaChecked
import GoSem.Claim
import GoSem.ClaimJoined
import GoSem.ClaimMapViews
import Derived.JoinedTies
import Derived.KernelRfl
namespace Go.Proofs.Ytlogekdicmiciaa
/- THE CELL 'sum', in the pinned program and in every row, IS THE sha256 OF THE DUMP (.gsa) THAT YtlogekdicmiciaaProg.lean LOADS. Nothing in Lean hashes anything: it is a label: what it is worth is what the hold of that sum in a sandbox is worth. -/
noncomputable def Try.pinned : Pinned := { name := "ytlogekdicmiciaa", sum := "42de091bf830580800d8665784f7331151ff52a210853dc94f6136048c41f401", checked := Try.checked }
namespace Rows
def none {H : Type} : Left H := { results := [], args := [] }

/-- 'batchlinelaw08.ProverExact': WHATEVER THE INPUT: true; the input reads as it did. -/
def proverExactSpec : ChangeSpec := { name := "proverExact", fn := fun _ => fun
  | [d1, d2] => { results := [.lit (.bool true)], args := [d1, d2] }
  | _ => none }
def proverExactRow : OpenClaim := { program := "ytlogekdicmiciaa", sum := "42de091bf830580800d8665784f7331151ff52a210853dc94f6136048c41f401", func := "batchline/batchlinelaw08.ProverExact", spec := "proverExact", unfollowed := true, recurses := true, apart := false }
def ProverExactSaid : Prop := proverExactRow.holds Try.pinned (OpenSpec.ofChange proverExactSpec)

/-- ITS FALSE NEIGHBOUR: 'it returns false'. Refute it at one input. -/
def proverExactWrong : ChangeSpec := { name := "proverExact", fn := fun _ => fun
  | [d1, d2] => { results := [.lit (.bool false)], args := [d1, d2] }
  | _ => none }
def ProverExactWrongFalsely : Prop := proverExactRow.holds Try.pinned (OpenSpec.ofChange proverExactWrong)

/-- 'batchlinelaw08.ProverAnswers': WHATEVER THE INPUT: true; the input reads as it did. -/
def proverAnswersSpec : ChangeSpec := { name := "proverAnswers", fn := fun _ => fun
  | [d1, d2, d3, d4] => { results := [.lit (.bool true)], args := [d1, d2, d3, d4] }
  | _ => none }
def proverAnswersRow : OpenClaim := { program := "ytlogekdicmiciaa", sum := "42de091bf830580800d8665784f7331151ff52a210853dc94f6136048c41f401", func := "batchline/batchlinelaw08.ProverAnswers", spec := "proverAnswers", unfollowed := true, recurses := true, apart := false }
def ProverAnswersSaid : Prop := proverAnswersRow.holds Try.pinned (OpenSpec.ofChange proverAnswersSpec)

/-- ITS FALSE NEIGHBOUR: 'it returns false'. Refute it at one input. -/
def proverAnswersWrong : ChangeSpec := { name := "proverAnswers", fn := fun _ => fun
  | [d1, d2, d3, d4] => { results := [.lit (.bool false)], args := [d1, d2, d3, d4] }
  | _ => none }
def ProverAnswersWrongFalsely : Prop := proverAnswersRow.holds Try.pinned (OpenSpec.ofChange proverAnswersWrong)

/-- 'batchlinelaw08.ProverFirst': WHATEVER THE INPUT: true; the input reads as it did. -/
def proverFirstSpec : ChangeSpec := { name := "proverFirst", fn := fun _ => fun
  | [d] => { results := [.lit (.bool true)], args := [d] }
  | _ => none }
def proverFirstRow : OpenClaim := { program := "ytlogekdicmiciaa", sum := "42de091bf830580800d8665784f7331151ff52a210853dc94f6136048c41f401", func := "batchline/batchlinelaw08.ProverFirst", spec := "proverFirst", unfollowed := true, recurses := true, apart := false }
def ProverFirstSaid : Prop := proverFirstRow.holds Try.pinned (OpenSpec.ofChange proverFirstSpec)

/-- ITS FALSE NEIGHBOUR: 'it returns false'. Refute it at one input. -/
def proverFirstWrong : ChangeSpec := { name := "proverFirst", fn := fun _ => fun
  | [d] => { results := [.lit (.bool false)], args := [d] }
  | _ => none }
def ProverFirstWrongFalsely : Prop := proverFirstRow.holds Try.pinned (OpenSpec.ofChange proverFirstWrong)

/-- 'batchlinelaw08.ProverParts': WHATEVER THE INPUT: true; the input reads as it did. -/
def proverPartsSpec : ChangeSpec := { name := "proverParts", fn := fun _ => fun
  | [d1, d2, d3, d4] => { results := [.lit (.bool true)], args := [d1, d2, d3, d4] }
  | _ => none }
def proverPartsRow : OpenClaim := { program := "ytlogekdicmiciaa", sum := "42de091bf830580800d8665784f7331151ff52a210853dc94f6136048c41f401", func := "batchline/batchlinelaw08.ProverParts", spec := "proverParts", unfollowed := true, recurses := true, apart := false }
def ProverPartsSaid : Prop := proverPartsRow.holds Try.pinned (OpenSpec.ofChange proverPartsSpec)

/-- ITS FALSE NEIGHBOUR: 'it returns false'. Refute it at one input. -/
def proverPartsWrong : ChangeSpec := { name := "proverParts", fn := fun _ => fun
  | [d1, d2, d3, d4] => { results := [.lit (.bool false)], args := [d1, d2, d3, d4] }
  | _ => none }
def ProverPartsWrongFalsely : Prop := proverPartsRow.holds Try.pinned (OpenSpec.ofChange proverPartsWrong)

/-- 'batchlinelaw08.ProverScales': WHATEVER THE INPUT: true; the input reads as it did. -/
def proverScalesSpec : ChangeSpec := { name := "proverScales", fn := fun _ => fun
  | [d] => { results := [.lit (.bool true)], args := [d] }
  | _ => none }
def proverScalesRow : OpenClaim := { program := "ytlogekdicmiciaa", sum := "42de091bf830580800d8665784f7331151ff52a210853dc94f6136048c41f401", func := "batchline/batchlinelaw08.ProverScales", spec := "proverScales", unfollowed := true, recurses := true, apart := false }
def ProverScalesSaid : Prop := proverScalesRow.holds Try.pinned (OpenSpec.ofChange proverScalesSpec)

/-- ITS FALSE NEIGHBOUR: 'it returns false'. Refute it at one input. -/
def proverScalesWrong : ChangeSpec := { name := "proverScales", fn := fun _ => fun
  | [d] => { results := [.lit (.bool false)], args := [d] }
  | _ => none }
def ProverScalesWrongFalsely : Prop := proverScalesRow.holds Try.pinned (OpenSpec.ofChange proverScalesWrong)

/- THE SECOND FORM. 'bulk': how many values and letters a reading holds, each counted each time it is reached (what is shared counts as often as it is met; a slice's spare places count too). A statement '..UptoSaid' is the law's where the arguments, and the package variables that the reading takes, are together of bulk at most 1048576: NARROWER than '..Said'. Prove '..Said' where nothing that the law and all that it calls make is longer than what came in: it says more and counts as full. Else prove '..UptoSaid'. A law counts once. -/
mutual
def uptoBulk {H : Type} : DataW H → Nat
  | .lit (.string bytes) => bytes.length + 1
  | .lit _ => 1
  | .nil => 1
  | .ptr d => uptoBulk d + 1
  | .slice elems spare => uptoBulkAll elems + uptoBulkAll spare + 1
  | .agg parts => uptoBulkAll parts + 1
  | .iface _ d => uptoBulk d + 1
  | .map entries => uptoBulkEntries entries + 1
  | .held _ => 1
def uptoBulkAll {H : Type} : List (DataW H) → Nat
  | [] => 0
  | d :: r => uptoBulk d + uptoBulkAll r
def uptoBulkEntries {H : Type} : List (Lit × DataW H) → Nat
  | [] => 0
  | x :: r => uptoBulkEntry x + uptoBulkEntries r
def uptoBulkEntry {H : Type} : Lit × DataW H → Nat
  | (.string bytes, d) => bytes.length + uptoBulk d + 1
  | (_, d) => uptoBulk d + 1
 end
def uptoSmall : (H : Type) → List (DataW H) → Bool := fun _ ds => decide (uptoBulkAll ds ≤ 1048576)
def OpenSpec.upto (s : _root_.Go.ChangeSpec) : _root_.Go.OpenSpec := { _root_.Go.OpenSpec.ofChange s with cond := some uptoSmall }

/-- 'batchlinelaw08.ProverExact', WHERE WHAT IT READS IS OF BULK AT MOST 1048576: true; the input reads as it did. -/
def proverExactUptoRow : OpenClaim := { program := "ytlogekdicmiciaa", sum := "42de091bf830580800d8665784f7331151ff52a210853dc94f6136048c41f401", func := "batchline/batchlinelaw08.ProverExact", spec := "proverExact", unfollowed := true, recurses := true, apart := false, narrowed := true }
def ProverExactUptoSaid : Prop := proverExactUptoRow.holds Try.pinned (OpenSpec.upto proverExactSpec)

/-- 'batchlinelaw08.ProverAnswers', WHERE WHAT IT READS IS OF BULK AT MOST 1048576: true; the input reads as it did. -/
def proverAnswersUptoRow : OpenClaim := { program := "ytlogekdicmiciaa", sum := "42de091bf830580800d8665784f7331151ff52a210853dc94f6136048c41f401", func := "batchline/batchlinelaw08.ProverAnswers", spec := "proverAnswers", unfollowed := true, recurses := true, apart := false, narrowed := true }
def ProverAnswersUptoSaid : Prop := proverAnswersUptoRow.holds Try.pinned (OpenSpec.upto proverAnswersSpec)

/-- 'batchlinelaw08.ProverFirst', WHERE WHAT IT READS IS OF BULK AT MOST 1048576: true; the input reads as it did. -/
def proverFirstUptoRow : OpenClaim := { program := "ytlogekdicmiciaa", sum := "42de091bf830580800d8665784f7331151ff52a210853dc94f6136048c41f401", func := "batchline/batchlinelaw08.ProverFirst", spec := "proverFirst", unfollowed := true, recurses := true, apart := false, narrowed := true }
def ProverFirstUptoSaid : Prop := proverFirstUptoRow.holds Try.pinned (OpenSpec.upto proverFirstSpec)

/-- 'batchlinelaw08.ProverParts', WHERE WHAT IT READS IS OF BULK AT MOST 1048576: true; the input reads as it did. -/
def proverPartsUptoRow : OpenClaim := { program := "ytlogekdicmiciaa", sum := "42de091bf830580800d8665784f7331151ff52a210853dc94f6136048c41f401", func := "batchline/batchlinelaw08.ProverParts", spec := "proverParts", unfollowed := true, recurses := true, apart := false, narrowed := true }
def ProverPartsUptoSaid : Prop := proverPartsUptoRow.holds Try.pinned (OpenSpec.upto proverPartsSpec)

/-- 'batchlinelaw08.ProverScales', WHERE WHAT IT READS IS OF BULK AT MOST 1048576: true; the input reads as it did. -/
def proverScalesUptoRow : OpenClaim := { program := "ytlogekdicmiciaa", sum := "42de091bf830580800d8665784f7331151ff52a210853dc94f6136048c41f401", func := "batchline/batchlinelaw08.ProverScales", spec := "proverScales", unfollowed := true, recurses := true, apart := false, narrowed := true }
def ProverScalesUptoSaid : Prop := proverScalesUptoRow.holds Try.pinned (OpenSpec.upto proverScalesSpec)

end Rows
end Go.Proofs.Ytlogekdicmiciaa
