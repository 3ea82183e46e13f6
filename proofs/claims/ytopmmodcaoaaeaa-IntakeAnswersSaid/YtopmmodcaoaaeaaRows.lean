/-
  No cell of these rows narrows 'for every input' (looked for: loops, veiled, ifaces, maps, wideKeys, modest, calm, conditions, laid).
  DERIVED. THE GIVEN ROWS OF THIS SEAT. 7 by the template 'for every input the law returns true; each argument reads behind the call as it read before'; 0 by the template 'total and deterministic' (their statements: YtopmmodcaoaaeaaTotals.lean).
  GIVEN WITH THE SEED: the statements are not yours to turn. If you find one false, say at which input.
  Laid BY PROGRAM, IN A SANDBOX (cutbox-rows.mjs): the forced cells as the released guide's own fill.sh prints them over the translation a8a88ecb31d0e4e6… (all of the seat's roots in one cut). By AI agents, Wed Nov 11 2026. No macro, syntax, notation, axiom, sorry.
-/
import Derived.Test.YtopmmodcaoaaeaaChecked
import GoSem.Claim
import GoSem.ClaimJoined
import GoSem.ClaimMapViews
import Derived.JoinedTies
import Derived.KernelRfl
namespace Go.Proofs.Ytopmmodcaoaaeaa
/- THE CELL 'sum', in the pinned program and in every row, IS THE sha256 OF THE DUMP (.gsa) THAT YtopmmodcaoaaeaaProg.lean LOADS. Nothing in Lean hashes anything: it is a label: what it is worth is what the hold of that sum in a sandbox is worth. -/
noncomputable def Try.pinned : Pinned := { name := "ytopmmodcaoaaeaa", sum := "a8a88ecb31d0e4e60485b2ea98bf4f20e59d818d4cb5552827a82d9d3750c083", checked := Try.checked }
namespace Rows
def none {H : Type} : Left H := { results := [], args := [] }

/-- 'batchlinelaw10.IntakeLate': WHATEVER THE INPUT: true; the input reads as it did. -/
def intakeLateSpec : ChangeSpec := { name := "intakeLate", fn := fun _ => fun
  | [d1, d2] => { results := [.lit (.bool true)], args := [d1, d2] }
  | _ => none }
def intakeLateRow : OpenClaim := { program := "ytopmmodcaoaaeaa", sum := "a8a88ecb31d0e4e60485b2ea98bf4f20e59d818d4cb5552827a82d9d3750c083", func := "batchline/batchlinelaw10.IntakeLate", spec := "intakeLate", inPlace := ["internal/bytealg.IndexByte", "slices.overlaps[batchline/api.Waiting]", "slices.overlaps[batchline/api.Telegram]"], unfollowed := true, recurses := true, apart := false }
def IntakeLateSaid : Prop := intakeLateRow.holds Try.pinned (OpenSpec.ofChange intakeLateSpec)

/-- ITS FALSE NEIGHBOUR: 'it returns false'. Refute it at one input. -/
def intakeLateWrong : ChangeSpec := { name := "intakeLate", fn := fun _ => fun
  | [d1, d2] => { results := [.lit (.bool false)], args := [d1, d2] }
  | _ => none }
def IntakeLateWrongFalsely : Prop := intakeLateRow.holds Try.pinned (OpenSpec.ofChange intakeLateWrong)

/-- 'batchlinelaw10.IntakeRestarts': WHATEVER THE INPUT: true; the input reads as it did. -/
def intakeRestartsSpec : ChangeSpec := { name := "intakeRestarts", fn := fun _ => fun
  | [d] => { results := [.lit (.bool true)], args := [d] }
  | _ => none }
def intakeRestartsRow : OpenClaim := { program := "ytopmmodcaoaaeaa", sum := "a8a88ecb31d0e4e60485b2ea98bf4f20e59d818d4cb5552827a82d9d3750c083", func := "batchline/batchlinelaw10.IntakeRestarts", spec := "intakeRestarts", inPlace := ["internal/bytealg.IndexByte", "slices.overlaps[batchline/api.Waiting]", "slices.overlaps[batchline/api.Telegram]"], unfollowed := true, recurses := true, apart := false }
def IntakeRestartsSaid : Prop := intakeRestartsRow.holds Try.pinned (OpenSpec.ofChange intakeRestartsSpec)

/-- ITS FALSE NEIGHBOUR: 'it returns false'. Refute it at one input. -/
def intakeRestartsWrong : ChangeSpec := { name := "intakeRestarts", fn := fun _ => fun
  | [d] => { results := [.lit (.bool false)], args := [d] }
  | _ => none }
def IntakeRestartsWrongFalsely : Prop := intakeRestartsRow.holds Try.pinned (OpenSpec.ofChange intakeRestartsWrong)

/-- 'batchlinelaw10.IntakeStations': WHATEVER THE INPUT: true; the input reads as it did. -/
def intakeStationsSpec : ChangeSpec := { name := "intakeStations", fn := fun _ => fun
  | [d1, d2] => { results := [.lit (.bool true)], args := [d1, d2] }
  | _ => none }
def intakeStationsRow : OpenClaim := { program := "ytopmmodcaoaaeaa", sum := "a8a88ecb31d0e4e60485b2ea98bf4f20e59d818d4cb5552827a82d9d3750c083", func := "batchline/batchlinelaw10.IntakeStations", spec := "intakeStations", inPlace := ["internal/bytealg.IndexByte", "slices.overlaps[batchline/api.Waiting]", "slices.overlaps[batchline/api.Telegram]"], unfollowed := true, recurses := true, apart := false }
def IntakeStationsSaid : Prop := intakeStationsRow.holds Try.pinned (OpenSpec.ofChange intakeStationsSpec)

/-- ITS FALSE NEIGHBOUR: 'it returns false'. Refute it at one input. -/
def intakeStationsWrong : ChangeSpec := { name := "intakeStations", fn := fun _ => fun
  | [d1, d2] => { results := [.lit (.bool false)], args := [d1, d2] }
  | _ => none }
def IntakeStationsWrongFalsely : Prop := intakeStationsRow.holds Try.pinned (OpenSpec.ofChange intakeStationsWrong)

/-- 'batchlinelaw10.IntakeAnswers': WHATEVER THE INPUT: true; the input reads as it did. -/
def intakeAnswersSpec : ChangeSpec := { name := "intakeAnswers", fn := fun _ => fun
  | [d1, d2, d3, d4, d5] => { results := [.lit (.bool true)], args := [d1, d2, d3, d4, d5] }
  | _ => none }
def intakeAnswersRow : OpenClaim := { program := "ytopmmodcaoaaeaa", sum := "a8a88ecb31d0e4e60485b2ea98bf4f20e59d818d4cb5552827a82d9d3750c083", func := "batchline/batchlinelaw10.IntakeAnswers", spec := "intakeAnswers", inPlace := ["internal/bytealg.IndexByte", "slices.overlaps[batchline/api.Waiting]", "slices.overlaps[batchline/api.Telegram]"], unfollowed := true, recurses := true, apart := false }
def IntakeAnswersSaid : Prop := intakeAnswersRow.holds Try.pinned (OpenSpec.ofChange intakeAnswersSpec)

/-- ITS FALSE NEIGHBOUR: 'it returns false'. Refute it at one input. -/
def intakeAnswersWrong : ChangeSpec := { name := "intakeAnswers", fn := fun _ => fun
  | [d1, d2, d3, d4, d5] => { results := [.lit (.bool false)], args := [d1, d2, d3, d4, d5] }
  | _ => none }
def IntakeAnswersWrongFalsely : Prop := intakeAnswersRow.holds Try.pinned (OpenSpec.ofChange intakeAnswersWrong)

/-- 'batchlinelaw10.IntakeParts': WHATEVER THE INPUT: true; the input reads as it did. -/
def intakePartsSpec : ChangeSpec := { name := "intakeParts", fn := fun _ => fun
  | [d1, d2, d3] => { results := [.lit (.bool true)], args := [d1, d2, d3] }
  | _ => none }
def intakePartsRow : OpenClaim := { program := "ytopmmodcaoaaeaa", sum := "a8a88ecb31d0e4e60485b2ea98bf4f20e59d818d4cb5552827a82d9d3750c083", func := "batchline/batchlinelaw10.IntakeParts", spec := "intakeParts", inPlace := ["internal/bytealg.IndexByte", "slices.overlaps[batchline/api.Waiting]", "slices.overlaps[batchline/api.Telegram]"], unfollowed := true, recurses := true, apart := false }
def IntakePartsSaid : Prop := intakePartsRow.holds Try.pinned (OpenSpec.ofChange intakePartsSpec)

/-- ITS FALSE NEIGHBOUR: 'it returns false'. Refute it at one input. -/
def intakePartsWrong : ChangeSpec := { name := "intakeParts", fn := fun _ => fun
  | [d1, d2, d3] => { results := [.lit (.bool false)], args := [d1, d2, d3] }
  | _ => none }
def IntakePartsWrongFalsely : Prop := intakePartsRow.holds Try.pinned (OpenSpec.ofChange intakePartsWrong)

/-- 'batchlinelaw10.IntakeOrder': WHATEVER THE INPUT: true; the input reads as it did. -/
def intakeOrderSpec : ChangeSpec := { name := "intakeOrder", fn := fun _ => fun
  | [d1, d2] => { results := [.lit (.bool true)], args := [d1, d2] }
  | _ => none }
def intakeOrderRow : OpenClaim := { program := "ytopmmodcaoaaeaa", sum := "a8a88ecb31d0e4e60485b2ea98bf4f20e59d818d4cb5552827a82d9d3750c083", func := "batchline/batchlinelaw10.IntakeOrder", spec := "intakeOrder", inPlace := ["internal/bytealg.IndexByte", "slices.overlaps[batchline/api.Waiting]", "slices.overlaps[batchline/api.Telegram]"], unfollowed := true, recurses := true, apart := false }
def IntakeOrderSaid : Prop := intakeOrderRow.holds Try.pinned (OpenSpec.ofChange intakeOrderSpec)

/-- ITS FALSE NEIGHBOUR: 'it returns false'. Refute it at one input. -/
def intakeOrderWrong : ChangeSpec := { name := "intakeOrder", fn := fun _ => fun
  | [d1, d2] => { results := [.lit (.bool false)], args := [d1, d2] }
  | _ => none }
def IntakeOrderWrongFalsely : Prop := intakeOrderRow.holds Try.pinned (OpenSpec.ofChange intakeOrderWrong)

/-- 'batchlinelaw10.IntakeDamage': WHATEVER THE INPUT: true; the input reads as it did. -/
def intakeDamageSpec : ChangeSpec := { name := "intakeDamage", fn := fun _ => fun
  | [d1, d2, d3] => { results := [.lit (.bool true)], args := [d1, d2, d3] }
  | _ => none }
def intakeDamageRow : OpenClaim := { program := "ytopmmodcaoaaeaa", sum := "a8a88ecb31d0e4e60485b2ea98bf4f20e59d818d4cb5552827a82d9d3750c083", func := "batchline/batchlinelaw10.IntakeDamage", spec := "intakeDamage", inPlace := ["internal/bytealg.IndexByte", "slices.overlaps[batchline/api.Waiting]", "slices.overlaps[batchline/api.Telegram]"], unfollowed := true, recurses := true, apart := false }
def IntakeDamageSaid : Prop := intakeDamageRow.holds Try.pinned (OpenSpec.ofChange intakeDamageSpec)

/-- ITS FALSE NEIGHBOUR: 'it returns false'. Refute it at one input. -/
def intakeDamageWrong : ChangeSpec := { name := "intakeDamage", fn := fun _ => fun
  | [d1, d2, d3] => { results := [.lit (.bool false)], args := [d1, d2, d3] }
  | _ => none }
def IntakeDamageWrongFalsely : Prop := intakeDamageRow.holds Try.pinned (OpenSpec.ofChange intakeDamageWrong)

/- THE SECOND FORM. 'bulk': how many values and letters a reading holds, each counted each time it is reached (what is shared counts as often as it is met; a slice's spare places count too). A statement '..UptoSaid' is the law's where the arguments, and the package variables that the reading takes, are together of bulk at most 1048576: NARROWER than '..Said'. Prove '..Said' where nothing that the law and all that it calls make is longer than what came in: it says more and counts as full. Else prove '..UptoSaid'. A law counts once. -/
mutual
def uptoBulk {H : Type} : DataW H → Nat
  | .lit (.string bytes) => bytes.length + 1
  | .lit _ => 1
  | .nil => 1
  | .ptr d => uptoBulk d + 1
  | .slice elems spare => uptoBulkAll elems + uptoBulkAll spare + 1
  | .agg parts => uptoBulkAll parts + 1
  | .iface _ d => uptoBulk d + 1
  | .map entries => uptoBulkEntries entries + 1
  | .held _ => 1
def uptoBulkAll {H : Type} : List (DataW H) → Nat
  | [] => 0
  | d :: r => uptoBulk d + uptoBulkAll r
def uptoBulkEntries {H : Type} : List (Lit × DataW H) → Nat
  | [] => 0
  | x :: r => uptoBulkEntry x + uptoBulkEntries r
def uptoBulkEntry {H : Type} : Lit × DataW H → Nat
  | (.string bytes, d) => bytes.length + uptoBulk d + 1
  | (_, d) => uptoBulk d + 1
 end
def uptoSmall : (H : Type) → List (DataW H) → Bool := fun _ ds => decide (uptoBulkAll ds ≤ 1048576)
def OpenSpec.upto (s : _root_.Go.ChangeSpec) : _root_.Go.OpenSpec := { _root_.Go.OpenSpec.ofChange s with cond := some uptoSmall }

/-- 'batchlinelaw10.IntakeLate', WHERE WHAT IT READS IS OF BULK AT MOST 1048576: true; the input reads as it did. -/
def intakeLateUptoRow : OpenClaim := { program := "ytopmmodcaoaaeaa", sum := "a8a88ecb31d0e4e60485b2ea98bf4f20e59d818d4cb5552827a82d9d3750c083", func := "batchline/batchlinelaw10.IntakeLate", spec := "intakeLate", inPlace := ["internal/bytealg.IndexByte", "slices.overlaps[batchline/api.Waiting]", "slices.overlaps[batchline/api.Telegram]"], unfollowed := true, recurses := true, apart := false, narrowed := true }
def IntakeLateUptoSaid : Prop := intakeLateUptoRow.holds Try.pinned (OpenSpec.upto intakeLateSpec)

/-- 'batchlinelaw10.IntakeRestarts', WHERE WHAT IT READS IS OF BULK AT MOST 1048576: true; the input reads as it did. -/
def intakeRestartsUptoRow : OpenClaim := { program := "ytopmmodcaoaaeaa", sum := "a8a88ecb31d0e4e60485b2ea98bf4f20e59d818d4cb5552827a82d9d3750c083", func := "batchline/batchlinelaw10.IntakeRestarts", spec := "intakeRestarts", inPlace := ["internal/bytealg.IndexByte", "slices.overlaps[batchline/api.Waiting]", "slices.overlaps[batchline/api.Telegram]"], unfollowed := true, recurses := true, apart := false, narrowed := true }
def IntakeRestartsUptoSaid : Prop := intakeRestartsUptoRow.holds Try.pinned (OpenSpec.upto intakeRestartsSpec)

/-- 'batchlinelaw10.IntakeStations', WHERE WHAT IT READS IS OF BULK AT MOST 1048576: true; the input reads as it did. -/
def intakeStationsUptoRow : OpenClaim := { program := "ytopmmodcaoaaeaa", sum := "a8a88ecb31d0e4e60485b2ea98bf4f20e59d818d4cb5552827a82d9d3750c083", func := "batchline/batchlinelaw10.IntakeStations", spec := "intakeStations", inPlace := ["internal/bytealg.IndexByte", "slices.overlaps[batchline/api.Waiting]", "slices.overlaps[batchline/api.Telegram]"], unfollowed := true, recurses := true, apart := false, narrowed := true }
def IntakeStationsUptoSaid : Prop := intakeStationsUptoRow.holds Try.pinned (OpenSpec.upto intakeStationsSpec)

/-- 'batchlinelaw10.IntakeAnswers', WHERE WHAT IT READS IS OF BULK AT MOST 1048576: true; the input reads as it did. -/
def intakeAnswersUptoRow : OpenClaim := { program := "ytopmmodcaoaaeaa", sum := "a8a88ecb31d0e4e60485b2ea98bf4f20e59d818d4cb5552827a82d9d3750c083", func := "batchline/batchlinelaw10.IntakeAnswers", spec := "intakeAnswers", inPlace := ["internal/bytealg.IndexByte", "slices.overlaps[batchline/api.Waiting]", "slices.overlaps[batchline/api.Telegram]"], unfollowed := true, recurses := true, apart := false, narrowed := true }
def IntakeAnswersUptoSaid : Prop := intakeAnswersUptoRow.holds Try.pinned (OpenSpec.upto intakeAnswersSpec)

/-- 'batchlinelaw10.IntakeParts', WHERE WHAT IT READS IS OF BULK AT MOST 1048576: true; the input reads as it did. -/
def intakePartsUptoRow : OpenClaim := { program := "ytopmmodcaoaaeaa", sum := "a8a88ecb31d0e4e60485b2ea98bf4f20e59d818d4cb5552827a82d9d3750c083", func := "batchline/batchlinelaw10.IntakeParts", spec := "intakeParts", inPlace := ["internal/bytealg.IndexByte", "slices.overlaps[batchline/api.Waiting]", "slices.overlaps[batchline/api.Telegram]"], unfollowed := true, recurses := true, apart := false, narrowed := true }
def IntakePartsUptoSaid : Prop := intakePartsUptoRow.holds Try.pinned (OpenSpec.upto intakePartsSpec)

/-- 'batchlinelaw10.IntakeOrder', WHERE WHAT IT READS IS OF BULK AT MOST 1048576: true; the input reads as it did. -/
def intakeOrderUptoRow : OpenClaim := { program := "ytopmmodcaoaaeaa", sum := "a8a88ecb31d0e4e60485b2ea98bf4f20e59d818d4cb5552827a82d9d3750c083", func := "batchline/batchlinelaw10.IntakeOrder", spec := "intakeOrder", inPlace := ["internal/bytealg.IndexByte", "slices.overlaps[batchline/api.Waiting]", "slices.overlaps[batchline/api.Telegram]"], unfollowed := true, recurses := true, apart := false, narrowed := true }
def IntakeOrderUptoSaid : Prop := intakeOrderUptoRow.holds Try.pinned (OpenSpec.upto intakeOrderSpec)

/-- 'batchlinelaw10.IntakeDamage', WHERE WHAT IT READS IS OF BULK AT MOST 1048576: true; the input reads as it did. -/
def intakeDamageUptoRow : OpenClaim := { program := "ytopmmodcaoaaeaa", sum := "a8a88ecb31d0e4e60485b2ea98bf4f20e59d818d4cb5552827a82d9d3750c083", func := "batchline/batchlinelaw10.IntakeDamage", spec := "intakeDamage", inPlace := ["internal/bytealg.IndexByte", "slices.overlaps[batchline/api.Waiting]", "slices.overlaps[batchline/api.Telegram]"], unfollowed := true, recurses := true, apart := false, narrowed := true }
def IntakeDamageUptoSaid : Prop := intakeDamageUptoRow.holds Try.pinned (OpenSpec.upto intakeDamageSpec)

end Rows
end Go.Proofs.Ytopmmodcaoaaeaa
