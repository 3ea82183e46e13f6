/-
  No cell of these rows narrows 'for every input' (looked for: loops, veiled, ifaces, maps, wideKeys, modest, calm, conditions, laid).
  DERIVED. THE GIVEN ROWS OF THIS SEAT. 5 by the template 'for every input the law returns true; each argument reads behind the call as it read before'; 0 by the template 'total and deterministic' (their statements: YtgncmbjkahpdiaaTotals.lean).
  GIVEN WITH THE SEED: the statements are not yours to turn. If you find one false, say at which input.
  Laid BY PROGRAM, IN A SANDBOX (cutbox-rows.mjs): the forced cells as the released guide's own fill.sh prints them over the translation bcf50679f3c1d17c… (all of the seat's roots in one cut). By AI agents, Wed Nov 11 2026. No macro, syntax, notation, axiom, sorry.
-/
import Derived.Test.YtgncmbjkahpdiaaChecked
import GoSem.Claim
import GoSem.ClaimJoined
import GoSem.ClaimMapViews
import Derived.JoinedTies
import Derived.KernelRfl
namespace Go.Proofs.Ytgncmbjkahpdiaa
/- THE CELL 'sum', in the pinned program and in every row, IS THE sha256 OF THE DUMP (.gsa) THAT YtgncmbjkahpdiaaProg.lean LOADS. Nothing in Lean hashes anything: it is a label: what it is worth is what the hold of that sum in a sandbox is worth. -/
noncomputable def Try.pinned : Pinned := { name := "ytgncmbjkahpdiaa", sum := "bcf50679f3c1d17c0451006b35b925391d9243a3770375b156a3ddc9443c17bc", checked := Try.checked }
namespace Rows
def none {H : Type} : Left H := { results := [], args := [] }

/-- 'batchlinelaw40.JournalRaw': WHATEVER THE INPUT: true; the input reads as it did. -/
def journalRawSpec : ChangeSpec := { name := "journalRaw", fn := fun _ => fun
  | [d1, d2, d3] => { results := [.lit (.bool true)], args := [d1, d2, d3] }
  | _ => none }
def journalRawRow : OpenClaim := { program := "ytgncmbjkahpdiaa", sum := "bcf50679f3c1d17c0451006b35b925391d9243a3770375b156a3ddc9443c17bc", func := "batchline/batchlinelaw40.JournalRaw", spec := "journalRaw", apart := false }
def JournalRawSaid : Prop := journalRawRow.holds Try.pinned (OpenSpec.ofChange journalRawSpec)

/-- ITS FALSE NEIGHBOUR: 'it returns false'. Refute it at one input. -/
def journalRawWrong : ChangeSpec := { name := "journalRaw", fn := fun _ => fun
  | [d1, d2, d3] => { results := [.lit (.bool false)], args := [d1, d2, d3] }
  | _ => none }
def JournalRawWrongFalsely : Prop := journalRawRow.holds Try.pinned (OpenSpec.ofChange journalRawWrong)

/-- 'batchlinelaw40.JournalSteps': WHATEVER THE INPUT: true; the input reads as it did. -/
def journalStepsSpec : ChangeSpec := { name := "journalSteps", fn := fun _ => fun
  | [d1, d2] => { results := [.lit (.bool true)], args := [d1, d2] }
  | _ => none }
def journalStepsRow : OpenClaim := { program := "ytgncmbjkahpdiaa", sum := "bcf50679f3c1d17c0451006b35b925391d9243a3770375b156a3ddc9443c17bc", func := "batchline/batchlinelaw40.JournalSteps", spec := "journalSteps", apart := false }
def JournalStepsSaid : Prop := journalStepsRow.holds Try.pinned (OpenSpec.ofChange journalStepsSpec)

/-- ITS FALSE NEIGHBOUR: 'it returns false'. Refute it at one input. -/
def journalStepsWrong : ChangeSpec := { name := "journalSteps", fn := fun _ => fun
  | [d1, d2] => { results := [.lit (.bool false)], args := [d1, d2] }
  | _ => none }
def JournalStepsWrongFalsely : Prop := journalStepsRow.holds Try.pinned (OpenSpec.ofChange journalStepsWrong)

/-- 'batchlinelaw40.JournalBytes': WHATEVER THE INPUT: true; the input reads as it did. -/
def journalBytesSpec : ChangeSpec := { name := "journalBytes", fn := fun _ => fun
  | [d1, d2, d3, d4] => { results := [.lit (.bool true)], args := [d1, d2, d3, d4] }
  | _ => none }
def journalBytesRow : OpenClaim := { program := "ytgncmbjkahpdiaa", sum := "bcf50679f3c1d17c0451006b35b925391d9243a3770375b156a3ddc9443c17bc", func := "batchline/batchlinelaw40.JournalBytes", spec := "journalBytes", apart := false }
def JournalBytesSaid : Prop := journalBytesRow.holds Try.pinned (OpenSpec.ofChange journalBytesSpec)

/-- ITS FALSE NEIGHBOUR: 'it returns false'. Refute it at one input. -/
def journalBytesWrong : ChangeSpec := { name := "journalBytes", fn := fun _ => fun
  | [d1, d2, d3, d4] => { results := [.lit (.bool false)], args := [d1, d2, d3, d4] }
  | _ => none }
def JournalBytesWrongFalsely : Prop := journalBytesRow.holds Try.pinned (OpenSpec.ofChange journalBytesWrong)

/-- 'batchlinelaw40.JournalKeeps': WHATEVER THE INPUT: true; the input reads as it did. -/
def journalKeepsSpec : ChangeSpec := { name := "journalKeeps", fn := fun _ => fun
  | [d] => { results := [.lit (.bool true)], args := [d] }
  | _ => none }
def journalKeepsRow : OpenClaim := { program := "ytgncmbjkahpdiaa", sum := "bcf50679f3c1d17c0451006b35b925391d9243a3770375b156a3ddc9443c17bc", func := "batchline/batchlinelaw40.JournalKeeps", spec := "journalKeeps", apart := false }
def JournalKeepsSaid : Prop := journalKeepsRow.holds Try.pinned (OpenSpec.ofChange journalKeepsSpec)

/-- ITS FALSE NEIGHBOUR: 'it returns false'. Refute it at one input. -/
def journalKeepsWrong : ChangeSpec := { name := "journalKeeps", fn := fun _ => fun
  | [d] => { results := [.lit (.bool false)], args := [d] }
  | _ => none }
def JournalKeepsWrongFalsely : Prop := journalKeepsRow.holds Try.pinned (OpenSpec.ofChange journalKeepsWrong)

/-- 'batchlinelaw40.JournalSizes': WHATEVER THE INPUT: true; the input reads as it did. -/
def journalSizesSpec : ChangeSpec := { name := "journalSizes", fn := fun _ => fun
  | [d1, d2] => { results := [.lit (.bool true)], args := [d1, d2] }
  | _ => none }
def journalSizesRow : OpenClaim := { program := "ytgncmbjkahpdiaa", sum := "bcf50679f3c1d17c0451006b35b925391d9243a3770375b156a3ddc9443c17bc", func := "batchline/batchlinelaw40.JournalSizes", spec := "journalSizes", apart := false }
def JournalSizesSaid : Prop := journalSizesRow.holds Try.pinned (OpenSpec.ofChange journalSizesSpec)

/-- ITS FALSE NEIGHBOUR: 'it returns false'. Refute it at one input. -/
def journalSizesWrong : ChangeSpec := { name := "journalSizes", fn := fun _ => fun
  | [d1, d2] => { results := [.lit (.bool false)], args := [d1, d2] }
  | _ => none }
def JournalSizesWrongFalsely : Prop := journalSizesRow.holds Try.pinned (OpenSpec.ofChange journalSizesWrong)

/- THE SECOND FORM. 'bulk': how many values and letters a reading holds, each counted each time it is reached (what is shared counts as often as it is met; a slice's spare places count too). A statement '..UptoSaid' is the law's where the arguments, and the package variables that the reading takes, are together of bulk at most 1048576: NARROWER than '..Said'. Prove '..Said' where nothing that the law and all that it calls make is longer than what came in: it says more and counts as full. Else prove '..UptoSaid'. A law counts once. -/
mutual
def uptoBulk {H : Type} : DataW H → Nat
  | .lit (.string bytes) => bytes.length + 1
  | .lit _ => 1
  | .nil => 1
  | .ptr d => uptoBulk d + 1
  | .slice elems spare => uptoBulkAll elems + uptoBulkAll spare + 1
  | .agg parts => uptoBulkAll parts + 1
  | .iface _ d => uptoBulk d + 1
  | .map entries => uptoBulkEntries entries + 1
  | .held _ => 1
def uptoBulkAll {H : Type} : List (DataW H) → Nat
  | [] => 0
  | d :: r => uptoBulk d + uptoBulkAll r
def uptoBulkEntries {H : Type} : List (Lit × DataW H) → Nat
  | [] => 0
  | x :: r => uptoBulkEntry x + uptoBulkEntries r
def uptoBulkEntry {H : Type} : Lit × DataW H → Nat
  | (.string bytes, d) => bytes.length + uptoBulk d + 1
  | (_, d) => uptoBulk d + 1
 end
def uptoSmall : (H : Type) → List (DataW H) → Bool := fun _ ds => decide (uptoBulkAll ds ≤ 1048576)
def OpenSpec.upto (s : _root_.Go.ChangeSpec) : _root_.Go.OpenSpec := { _root_.Go.OpenSpec.ofChange s with cond := some uptoSmall }

/-- 'batchlinelaw40.JournalRaw', WHERE WHAT IT READS IS OF BULK AT MOST 1048576: true; the input reads as it did. -/
def journalRawUptoRow : OpenClaim := { program := "ytgncmbjkahpdiaa", sum := "bcf50679f3c1d17c0451006b35b925391d9243a3770375b156a3ddc9443c17bc", func := "batchline/batchlinelaw40.JournalRaw", spec := "journalRaw", apart := false, narrowed := true }
def JournalRawUptoSaid : Prop := journalRawUptoRow.holds Try.pinned (OpenSpec.upto journalRawSpec)

/-- 'batchlinelaw40.JournalSteps', WHERE WHAT IT READS IS OF BULK AT MOST 1048576: true; the input reads as it did. -/
def journalStepsUptoRow : OpenClaim := { program := "ytgncmbjkahpdiaa", sum := "bcf50679f3c1d17c0451006b35b925391d9243a3770375b156a3ddc9443c17bc", func := "batchline/batchlinelaw40.JournalSteps", spec := "journalSteps", apart := false, narrowed := true }
def JournalStepsUptoSaid : Prop := journalStepsUptoRow.holds Try.pinned (OpenSpec.upto journalStepsSpec)

/-- 'batchlinelaw40.JournalBytes', WHERE WHAT IT READS IS OF BULK AT MOST 1048576: true; the input reads as it did. -/
def journalBytesUptoRow : OpenClaim := { program := "ytgncmbjkahpdiaa", sum := "bcf50679f3c1d17c0451006b35b925391d9243a3770375b156a3ddc9443c17bc", func := "batchline/batchlinelaw40.JournalBytes", spec := "journalBytes", apart := false, narrowed := true }
def JournalBytesUptoSaid : Prop := journalBytesUptoRow.holds Try.pinned (OpenSpec.upto journalBytesSpec)

/-- 'batchlinelaw40.JournalKeeps', WHERE WHAT IT READS IS OF BULK AT MOST 1048576: true; the input reads as it did. -/
def journalKeepsUptoRow : OpenClaim := { program := "ytgncmbjkahpdiaa", sum := "bcf50679f3c1d17c0451006b35b925391d9243a3770375b156a3ddc9443c17bc", func := "batchline/batchlinelaw40.JournalKeeps", spec := "journalKeeps", apart := false, narrowed := true }
def JournalKeepsUptoSaid : Prop := journalKeepsUptoRow.holds Try.pinned (OpenSpec.upto journalKeepsSpec)

/-- 'batchlinelaw40.JournalSizes', WHERE WHAT IT READS IS OF BULK AT MOST 1048576: true; the input reads as it did. -/
def journalSizesUptoRow : OpenClaim := { program := "ytgncmbjkahpdiaa", sum := "bcf50679f3c1d17c0451006b35b925391d9243a3770375b156a3ddc9443c17bc", func := "batchline/batchlinelaw40.JournalSizes", spec := "journalSizes", apart := false, narrowed := true }
def JournalSizesUptoSaid : Prop := journalSizesUptoRow.holds Try.pinned (OpenSpec.upto journalSizesSpec)

end Rows
end Go.Proofs.Ytgncmbjkahpdiaa
