/-
  No cell of these rows narrows 'for every input' (looked for: loops, veiled, ifaces, maps, wideKeys, modest, calm, conditions, laid).
  DERIVED. THE GIVEN ROWS OF THIS SEAT. 5 by the template 'for every input the law returns true; each argument reads behind the call as it read before'; 0 by the template 'total and deterministic' (their statements: YtakfgmkdknjfdaaTotals.lean).
  GIVEN WITH THE SEED: the statements are not yours to turn. If you find one false, say at which input.
  Laid BY PROGRAM, IN A SANDBOX (cutbox-rows.mjs): the forced cells as the released guide's own fill.sh prints them over the translation 8ff56821c4175188… (all of the seat's roots in one cut). By AI agents, Wed Nov 11 2026. No macro, syntax, notation, axiom, sorry.
-/
import Derived.Test.YtakfgmkdknjfdaaChecked
import GoSem.Claim
import GoSem.ClaimJoined
import GoSem.ClaimMapViews
import Derived.JoinedTies
import Derived.KernelRfl
namespace Go.Proofs.Ytakfgmkdknjfdaa
/- THE CELL 'sum', in the pinned program and in every row, IS THE sha256 OF THE DUMP (.gsa) THAT YtakfgmkdknjfdaaProg.lean LOADS. Nothing in Lean hashes anything: it is a label: what it is worth is what the hold of that sum in a sandbox is worth. -/
noncomputable def Try.pinned : Pinned := { name := "ytakfgmkdknjfdaa", sum := "8ff56821c4175188a9ebe8f9d47951e9c6059e7779a46fc7cd085494ff34f5d2", checked := Try.checked }
namespace Rows
def none {H : Type} : Left H := { results := [], args := [] }

/-- 'batchlinelaw09.TelegramBack': WHATEVER THE INPUT: true; the input reads as it did. -/
def telegramBackSpec : ChangeSpec := { name := "telegramBack", fn := fun _ => fun
  | [d1, d2] => { results := [.lit (.bool true)], args := [d1, d2] }
  | _ => none }
def telegramBackRow : OpenClaim := { program := "ytakfgmkdknjfdaa", sum := "8ff56821c4175188a9ebe8f9d47951e9c6059e7779a46fc7cd085494ff34f5d2", func := "batchline/batchlinelaw09.TelegramBack", spec := "telegramBack", unfollowed := true, recurses := true, apart := false }
def TelegramBackSaid : Prop := telegramBackRow.holds Try.pinned (OpenSpec.ofChange telegramBackSpec)

/-- ITS FALSE NEIGHBOUR: 'it returns false'. Refute it at one input. -/
def telegramBackWrong : ChangeSpec := { name := "telegramBack", fn := fun _ => fun
  | [d1, d2] => { results := [.lit (.bool false)], args := [d1, d2] }
  | _ => none }
def TelegramBackWrongFalsely : Prop := telegramBackRow.holds Try.pinned (OpenSpec.ofChange telegramBackWrong)

/-- 'batchlinelaw09.TelegramDamage': WHATEVER THE INPUT: true; the input reads as it did. -/
def telegramDamageSpec : ChangeSpec := { name := "telegramDamage", fn := fun _ => fun
  | [d1, d2, d3] => { results := [.lit (.bool true)], args := [d1, d2, d3] }
  | _ => none }
def telegramDamageRow : OpenClaim := { program := "ytakfgmkdknjfdaa", sum := "8ff56821c4175188a9ebe8f9d47951e9c6059e7779a46fc7cd085494ff34f5d2", func := "batchline/batchlinelaw09.TelegramDamage", spec := "telegramDamage", unfollowed := true, recurses := true, apart := false }
def TelegramDamageSaid : Prop := telegramDamageRow.holds Try.pinned (OpenSpec.ofChange telegramDamageSpec)

/-- ITS FALSE NEIGHBOUR: 'it returns false'. Refute it at one input. -/
def telegramDamageWrong : ChangeSpec := { name := "telegramDamage", fn := fun _ => fun
  | [d1, d2, d3] => { results := [.lit (.bool false)], args := [d1, d2, d3] }
  | _ => none }
def TelegramDamageWrongFalsely : Prop := telegramDamageRow.holds Try.pinned (OpenSpec.ofChange telegramDamageWrong)

/-- 'batchlinelaw09.TelegramUnlike': WHATEVER THE INPUT: true; the input reads as it did. -/
def telegramUnlikeSpec : ChangeSpec := { name := "telegramUnlike", fn := fun _ => fun
  | [d1, d2, d3] => { results := [.lit (.bool true)], args := [d1, d2, d3] }
  | _ => none }
def telegramUnlikeRow : OpenClaim := { program := "ytakfgmkdknjfdaa", sum := "8ff56821c4175188a9ebe8f9d47951e9c6059e7779a46fc7cd085494ff34f5d2", func := "batchline/batchlinelaw09.TelegramUnlike", spec := "telegramUnlike", unfollowed := true, recurses := true, apart := false }
def TelegramUnlikeSaid : Prop := telegramUnlikeRow.holds Try.pinned (OpenSpec.ofChange telegramUnlikeSpec)

/-- ITS FALSE NEIGHBOUR: 'it returns false'. Refute it at one input. -/
def telegramUnlikeWrong : ChangeSpec := { name := "telegramUnlike", fn := fun _ => fun
  | [d1, d2, d3] => { results := [.lit (.bool false)], args := [d1, d2, d3] }
  | _ => none }
def TelegramUnlikeWrongFalsely : Prop := telegramUnlikeRow.holds Try.pinned (OpenSpec.ofChange telegramUnlikeWrong)

/-- 'batchlinelaw09.TelegramAnswers': WHATEVER THE INPUT: true; the input reads as it did. -/
def telegramAnswersSpec : ChangeSpec := { name := "telegramAnswers", fn := fun _ => fun
  | [d1, d2, d3, d4] => { results := [.lit (.bool true)], args := [d1, d2, d3, d4] }
  | _ => none }
def telegramAnswersRow : OpenClaim := { program := "ytakfgmkdknjfdaa", sum := "8ff56821c4175188a9ebe8f9d47951e9c6059e7779a46fc7cd085494ff34f5d2", func := "batchline/batchlinelaw09.TelegramAnswers", spec := "telegramAnswers", unfollowed := true, recurses := true, apart := false }
def TelegramAnswersSaid : Prop := telegramAnswersRow.holds Try.pinned (OpenSpec.ofChange telegramAnswersSpec)

/-- ITS FALSE NEIGHBOUR: 'it returns false'. Refute it at one input. -/
def telegramAnswersWrong : ChangeSpec := { name := "telegramAnswers", fn := fun _ => fun
  | [d1, d2, d3, d4] => { results := [.lit (.bool false)], args := [d1, d2, d3, d4] }
  | _ => none }
def TelegramAnswersWrongFalsely : Prop := telegramAnswersRow.holds Try.pinned (OpenSpec.ofChange telegramAnswersWrong)

/-- 'batchlinelaw09.TelegramOrder': WHATEVER THE INPUT: true; the input reads as it did. -/
def telegramOrderSpec : ChangeSpec := { name := "telegramOrder", fn := fun _ => fun
  | [d1, d2, d3] => { results := [.lit (.bool true)], args := [d1, d2, d3] }
  | _ => none }
def telegramOrderRow : OpenClaim := { program := "ytakfgmkdknjfdaa", sum := "8ff56821c4175188a9ebe8f9d47951e9c6059e7779a46fc7cd085494ff34f5d2", func := "batchline/batchlinelaw09.TelegramOrder", spec := "telegramOrder", unfollowed := true, recurses := true, apart := false }
def TelegramOrderSaid : Prop := telegramOrderRow.holds Try.pinned (OpenSpec.ofChange telegramOrderSpec)

/-- ITS FALSE NEIGHBOUR: 'it returns false'. Refute it at one input. -/
def telegramOrderWrong : ChangeSpec := { name := "telegramOrder", fn := fun _ => fun
  | [d1, d2, d3] => { results := [.lit (.bool false)], args := [d1, d2, d3] }
  | _ => none }
def TelegramOrderWrongFalsely : Prop := telegramOrderRow.holds Try.pinned (OpenSpec.ofChange telegramOrderWrong)

/- THE SECOND FORM. 'bulk': how many values and letters a reading holds, each counted each time it is reached (what is shared counts as often as it is met; a slice's spare places count too). A statement '..UptoSaid' is the law's where the arguments, and the package variables that the reading takes, are together of bulk at most 1048576: NARROWER than '..Said'. Prove '..Said' where nothing that the law and all that it calls make is longer than what came in: it says more and counts as full. Else prove '..UptoSaid'. A law counts once. -/
mutual
def uptoBulk {H : Type} : DataW H → Nat
  | .lit (.string bytes) => bytes.length + 1
  | .lit _ => 1
  | .nil => 1
  | .ptr d => uptoBulk d + 1
  | .slice elems spare => uptoBulkAll elems + uptoBulkAll spare + 1
  | .agg parts => uptoBulkAll parts + 1
  | .iface _ d => uptoBulk d + 1
  | .map entries => uptoBulkEntries entries + 1
  | .held _ => 1
def uptoBulkAll {H : Type} : List (DataW H) → Nat
  | [] => 0
  | d :: r => uptoBulk d + uptoBulkAll r
def uptoBulkEntries {H : Type} : List (Lit × DataW H) → Nat
  | [] => 0
  | x :: r => uptoBulkEntry x + uptoBulkEntries r
def uptoBulkEntry {H : Type} : Lit × DataW H → Nat
  | (.string bytes, d) => bytes.length + uptoBulk d + 1
  | (_, d) => uptoBulk d + 1
 end
def uptoSmall : (H : Type) → List (DataW H) → Bool := fun _ ds => decide (uptoBulkAll ds ≤ 1048576)
def OpenSpec.upto (s : _root_.Go.ChangeSpec) : _root_.Go.OpenSpec := { _root_.Go.OpenSpec.ofChange s with cond := some uptoSmall }

/-- 'batchlinelaw09.TelegramBack', WHERE WHAT IT READS IS OF BULK AT MOST 1048576: true; the input reads as it did. -/
def telegramBackUptoRow : OpenClaim := { program := "ytakfgmkdknjfdaa", sum := "8ff56821c4175188a9ebe8f9d47951e9c6059e7779a46fc7cd085494ff34f5d2", func := "batchline/batchlinelaw09.TelegramBack", spec := "telegramBack", unfollowed := true, recurses := true, apart := false, narrowed := true }
def TelegramBackUptoSaid : Prop := telegramBackUptoRow.holds Try.pinned (OpenSpec.upto telegramBackSpec)

/-- 'batchlinelaw09.TelegramDamage', WHERE WHAT IT READS IS OF BULK AT MOST 1048576: true; the input reads as it did. -/
def telegramDamageUptoRow : OpenClaim := { program := "ytakfgmkdknjfdaa", sum := "8ff56821c4175188a9ebe8f9d47951e9c6059e7779a46fc7cd085494ff34f5d2", func := "batchline/batchlinelaw09.TelegramDamage", spec := "telegramDamage", unfollowed := true, recurses := true, apart := false, narrowed := true }
def TelegramDamageUptoSaid : Prop := telegramDamageUptoRow.holds Try.pinned (OpenSpec.upto telegramDamageSpec)

/-- 'batchlinelaw09.TelegramUnlike', WHERE WHAT IT READS IS OF BULK AT MOST 1048576: true; the input reads as it did. -/
def telegramUnlikeUptoRow : OpenClaim := { program := "ytakfgmkdknjfdaa", sum := "8ff56821c4175188a9ebe8f9d47951e9c6059e7779a46fc7cd085494ff34f5d2", func := "batchline/batchlinelaw09.TelegramUnlike", spec := "telegramUnlike", unfollowed := true, recurses := true, apart := false, narrowed := true }
def TelegramUnlikeUptoSaid : Prop := telegramUnlikeUptoRow.holds Try.pinned (OpenSpec.upto telegramUnlikeSpec)

/-- 'batchlinelaw09.TelegramAnswers', WHERE WHAT IT READS IS OF BULK AT MOST 1048576: true; the input reads as it did. -/
def telegramAnswersUptoRow : OpenClaim := { program := "ytakfgmkdknjfdaa", sum := "8ff56821c4175188a9ebe8f9d47951e9c6059e7779a46fc7cd085494ff34f5d2", func := "batchline/batchlinelaw09.TelegramAnswers", spec := "telegramAnswers", unfollowed := true, recurses := true, apart := false, narrowed := true }
def TelegramAnswersUptoSaid : Prop := telegramAnswersUptoRow.holds Try.pinned (OpenSpec.upto telegramAnswersSpec)

/-- 'batchlinelaw09.TelegramOrder', WHERE WHAT IT READS IS OF BULK AT MOST 1048576: true; the input reads as it did. -/
def telegramOrderUptoRow : OpenClaim := { program := "ytakfgmkdknjfdaa", sum := "8ff56821c4175188a9ebe8f9d47951e9c6059e7779a46fc7cd085494ff34f5d2", func := "batchline/batchlinelaw09.TelegramOrder", spec := "telegramOrder", unfollowed := true, recurses := true, apart := false, narrowed := true }
def TelegramOrderUptoSaid : Prop := telegramOrderUptoRow.holds Try.pinned (OpenSpec.upto telegramOrderSpec)

end Rows
end Go.Proofs.Ytakfgmkdknjfdaa
