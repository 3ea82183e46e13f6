/-
  No cell of these rows narrows 'for every input' (looked for: loops, veiled, ifaces, maps, wideKeys, modest, calm, conditions, laid).
  DERIVED. THE GIVEN ROWS OF THIS SEAT. 5 by the template 'for every input the law returns true; each argument reads behind the call as it read before'; 0 by the template 'total and deterministic' (their statements: YtgjfkklemelejaaTotals.lean).
  GIVEN WITH THE SEED: the statements are not yours to turn. If you find one false, say at which input.
  Laid BY PROGRAM, IN A SANDBOX (cutbox-rows.mjs): the forced cells as the released guide's own fill.sh prints them over the translation a4224494c13a7d04… (all of the seat's roots in one cut). By AI agents, Wed Nov 11 2026. No macro, syntax, notation, axiom, sorry.
-/
import Derived.Test.YtgjfkklemelejaaChecked
import GoSem.Claim
import GoSem.ClaimJoined
import GoSem.ClaimMapViews
import Derived.JoinedTies
import Derived.KernelRfl
namespace Go.Proofs.Ytgjfkklemelejaa
/- THE CELL 'sum', in the pinned program and in every row, IS THE sha256 OF THE DUMP (.gsa) THAT YtgjfkklemelejaaProg.lean LOADS. Nothing in Lean hashes anything: it is a label: what it is worth is what the hold of that sum in a sandbox is worth. -/
noncomputable def Try.pinned : Pinned := { name := "ytgjfkklemelejaa", sum := "a4224494c13a7d04fe4a0c546e3de20e9706f881df0d9b6a339032a6bea75ebf", checked := Try.checked }
namespace Rows
def none {H : Type} : Left H := { results := [], args := [] }

/-- 'batchlinelaw31.CutNothing': WHATEVER THE INPUT: true; the input reads as it did. -/
def cutNothingSpec : ChangeSpec := { name := "cutNothing", fn := fun _ => fun
  | [d1, d2] => { results := [.lit (.bool true)], args := [d1, d2] }
  | _ => none }
def cutNothingRow : OpenClaim := { program := "ytgjfkklemelejaa", sum := "a4224494c13a7d04fe4a0c546e3de20e9706f881df0d9b6a339032a6bea75ebf", func := "batchline/batchlinelaw31.CutNothing", spec := "cutNothing", unfollowed := true, recurses := true, apart := false }
def CutNothingSaid : Prop := cutNothingRow.holds Try.pinned (OpenSpec.ofChange cutNothingSpec)

/-- ITS FALSE NEIGHBOUR: 'it returns false'. Refute it at one input. -/
def cutNothingWrong : ChangeSpec := { name := "cutNothing", fn := fun _ => fun
  | [d1, d2] => { results := [.lit (.bool false)], args := [d1, d2] }
  | _ => none }
def CutNothingWrongFalsely : Prop := cutNothingRow.holds Try.pinned (OpenSpec.ofChange cutNothingWrong)

/-- 'batchlinelaw31.CutSums': WHATEVER THE INPUT: true; the input reads as it did. -/
def cutSumsSpec : ChangeSpec := { name := "cutSums", fn := fun _ => fun
  | [d1, d2] => { results := [.lit (.bool true)], args := [d1, d2] }
  | _ => none }
def cutSumsRow : OpenClaim := { program := "ytgjfkklemelejaa", sum := "a4224494c13a7d04fe4a0c546e3de20e9706f881df0d9b6a339032a6bea75ebf", func := "batchline/batchlinelaw31.CutSums", spec := "cutSums", unfollowed := true, recurses := true, apart := false }
def CutSumsSaid : Prop := cutSumsRow.holds Try.pinned (OpenSpec.ofChange cutSumsSpec)

/-- ITS FALSE NEIGHBOUR: 'it returns false'. Refute it at one input. -/
def cutSumsWrong : ChangeSpec := { name := "cutSums", fn := fun _ => fun
  | [d1, d2] => { results := [.lit (.bool false)], args := [d1, d2] }
  | _ => none }
def CutSumsWrongFalsely : Prop := cutSumsRow.holds Try.pinned (OpenSpec.ofChange cutSumsWrong)

/-- 'batchlinelaw31.CutOpens': WHATEVER THE INPUT: true; the input reads as it did. -/
def cutOpensSpec : ChangeSpec := { name := "cutOpens", fn := fun _ => fun
  | [d1, d2] => { results := [.lit (.bool true)], args := [d1, d2] }
  | _ => none }
def cutOpensRow : OpenClaim := { program := "ytgjfkklemelejaa", sum := "a4224494c13a7d04fe4a0c546e3de20e9706f881df0d9b6a339032a6bea75ebf", func := "batchline/batchlinelaw31.CutOpens", spec := "cutOpens", unfollowed := true, recurses := true, apart := false }
def CutOpensSaid : Prop := cutOpensRow.holds Try.pinned (OpenSpec.ofChange cutOpensSpec)

/-- ITS FALSE NEIGHBOUR: 'it returns false'. Refute it at one input. -/
def cutOpensWrong : ChangeSpec := { name := "cutOpens", fn := fun _ => fun
  | [d1, d2] => { results := [.lit (.bool false)], args := [d1, d2] }
  | _ => none }
def CutOpensWrongFalsely : Prop := cutOpensRow.holds Try.pinned (OpenSpec.ofChange cutOpensWrong)

/-- 'batchlinelaw31.CutTanks': WHATEVER THE INPUT: true; the input reads as it did. -/
def cutTanksSpec : ChangeSpec := { name := "cutTanks", fn := fun _ => fun
  | [d] => { results := [.lit (.bool true)], args := [d] }
  | _ => none }
def cutTanksRow : OpenClaim := { program := "ytgjfkklemelejaa", sum := "a4224494c13a7d04fe4a0c546e3de20e9706f881df0d9b6a339032a6bea75ebf", func := "batchline/batchlinelaw31.CutTanks", spec := "cutTanks", unfollowed := true, recurses := true, apart := false }
def CutTanksSaid : Prop := cutTanksRow.holds Try.pinned (OpenSpec.ofChange cutTanksSpec)

/-- ITS FALSE NEIGHBOUR: 'it returns false'. Refute it at one input. -/
def cutTanksWrong : ChangeSpec := { name := "cutTanks", fn := fun _ => fun
  | [d] => { results := [.lit (.bool false)], args := [d] }
  | _ => none }
def CutTanksWrongFalsely : Prop := cutTanksRow.holds Try.pinned (OpenSpec.ofChange cutTanksWrong)

/-- 'batchlinelaw31.CutMade': WHATEVER THE INPUT: true; the input reads as it did. -/
def cutMadeSpec : ChangeSpec := { name := "cutMade", fn := fun _ => fun
  | [d1, d2, d3] => { results := [.lit (.bool true)], args := [d1, d2, d3] }
  | _ => none }
def cutMadeRow : OpenClaim := { program := "ytgjfkklemelejaa", sum := "a4224494c13a7d04fe4a0c546e3de20e9706f881df0d9b6a339032a6bea75ebf", func := "batchline/batchlinelaw31.CutMade", spec := "cutMade", unfollowed := true, recurses := true, apart := false }
def CutMadeSaid : Prop := cutMadeRow.holds Try.pinned (OpenSpec.ofChange cutMadeSpec)

/-- ITS FALSE NEIGHBOUR: 'it returns false'. Refute it at one input. -/
def cutMadeWrong : ChangeSpec := { name := "cutMade", fn := fun _ => fun
  | [d1, d2, d3] => { results := [.lit (.bool false)], args := [d1, d2, d3] }
  | _ => none }
def CutMadeWrongFalsely : Prop := cutMadeRow.holds Try.pinned (OpenSpec.ofChange cutMadeWrong)

/- THE SECOND FORM. 'bulk': how many values and letters a reading holds, each counted each time it is reached (what is shared counts as often as it is met; a slice's spare places count too). A statement '..UptoSaid' is the law's where the arguments, and the package variables that the reading takes, are together of bulk at most 1048576: NARROWER than '..Said'. Prove '..Said' where nothing that the law and all that it calls make is longer than what came in: it says more and counts as full. Else prove '..UptoSaid'. A law counts once. -/
mutual
def uptoBulk {H : Type} : DataW H → Nat
  | .lit (.string bytes) => bytes.length + 1
  | .lit _ => 1
  | .nil => 1
  | .ptr d => uptoBulk d + 1
  | .slice elems spare => uptoBulkAll elems + uptoBulkAll spare + 1
  | .agg parts => uptoBulkAll parts + 1
  | .iface _ d => uptoBulk d + 1
  | .map entries => uptoBulkEntries entries + 1
  | .held _ => 1
def uptoBulkAll {H : Type} : List (DataW H) → Nat
  | [] => 0
  | d :: r => uptoBulk d + uptoBulkAll r
def uptoBulkEntries {H : Type} : List (Lit × DataW H) → Nat
  | [] => 0
  | x :: r => uptoBulkEntry x + uptoBulkEntries r
def uptoBulkEntry {H : Type} : Lit × DataW H → Nat
  | (.string bytes, d) => bytes.length + uptoBulk d + 1
  | (_, d) => uptoBulk d + 1
 end
def uptoSmall : (H : Type) → List (DataW H) → Bool := fun _ ds => decide (uptoBulkAll ds ≤ 1048576)
def OpenSpec.upto (s : _root_.Go.ChangeSpec) : _root_.Go.OpenSpec := { _root_.Go.OpenSpec.ofChange s with cond := some uptoSmall }

/-- 'batchlinelaw31.CutNothing', WHERE WHAT IT READS IS OF BULK AT MOST 1048576: true; the input reads as it did. -/
def cutNothingUptoRow : OpenClaim := { program := "ytgjfkklemelejaa", sum := "a4224494c13a7d04fe4a0c546e3de20e9706f881df0d9b6a339032a6bea75ebf", func := "batchline/batchlinelaw31.CutNothing", spec := "cutNothing", unfollowed := true, recurses := true, apart := false, narrowed := true }
def CutNothingUptoSaid : Prop := cutNothingUptoRow.holds Try.pinned (OpenSpec.upto cutNothingSpec)

/-- 'batchlinelaw31.CutSums', WHERE WHAT IT READS IS OF BULK AT MOST 1048576: true; the input reads as it did. -/
def cutSumsUptoRow : OpenClaim := { program := "ytgjfkklemelejaa", sum := "a4224494c13a7d04fe4a0c546e3de20e9706f881df0d9b6a339032a6bea75ebf", func := "batchline/batchlinelaw31.CutSums", spec := "cutSums", unfollowed := true, recurses := true, apart := false, narrowed := true }
def CutSumsUptoSaid : Prop := cutSumsUptoRow.holds Try.pinned (OpenSpec.upto cutSumsSpec)

/-- 'batchlinelaw31.CutOpens', WHERE WHAT IT READS IS OF BULK AT MOST 1048576: true; the input reads as it did. -/
def cutOpensUptoRow : OpenClaim := { program := "ytgjfkklemelejaa", sum := "a4224494c13a7d04fe4a0c546e3de20e9706f881df0d9b6a339032a6bea75ebf", func := "batchline/batchlinelaw31.CutOpens", spec := "cutOpens", unfollowed := true, recurses := true, apart := false, narrowed := true }
def CutOpensUptoSaid : Prop := cutOpensUptoRow.holds Try.pinned (OpenSpec.upto cutOpensSpec)

/-- 'batchlinelaw31.CutTanks', WHERE WHAT IT READS IS OF BULK AT MOST 1048576: true; the input reads as it did. -/
def cutTanksUptoRow : OpenClaim := { program := "ytgjfkklemelejaa", sum := "a4224494c13a7d04fe4a0c546e3de20e9706f881df0d9b6a339032a6bea75ebf", func := "batchline/batchlinelaw31.CutTanks", spec := "cutTanks", unfollowed := true, recurses := true, apart := false, narrowed := true }
def CutTanksUptoSaid : Prop := cutTanksUptoRow.holds Try.pinned (OpenSpec.upto cutTanksSpec)

/-- 'batchlinelaw31.CutMade', WHERE WHAT IT READS IS OF BULK AT MOST 1048576: true; the input reads as it did. -/
def cutMadeUptoRow : OpenClaim := { program := "ytgjfkklemelejaa", sum := "a4224494c13a7d04fe4a0c546e3de20e9706f881df0d9b6a339032a6bea75ebf", func := "batchline/batchlinelaw31.CutMade", spec := "cutMade", unfollowed := true, recurses := true, apart := false, narrowed := true }
def CutMadeUptoSaid : Prop := cutMadeUptoRow.holds Try.pinned (OpenSpec.upto cutMadeSpec)

end Rows
end Go.Proofs.Ytgjfkklemelejaa
