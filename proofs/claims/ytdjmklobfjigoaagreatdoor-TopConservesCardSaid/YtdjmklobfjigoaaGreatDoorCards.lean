/-
  DERIVED. GIVEN WITH THE SEED: THE CARDS: each row of YtdjmklobfjigoaaGreatDoorRows.lean that lists a variable, with what it lists TIED to the program's text (the seventh form; the later family's looks); each row that meets fmt, with fmt's text TOLD by the authors' own Lean function (tested against real Go, not proved from fmt's source: count such statements apart). THE CARD IS WHAT COUNTS. Prove the row's statement (the work); the ties are given (YtdjmklobfjigoaaGreatDoorTie.lean); close each card by the builder's one call (the guide's Derived/Test/ToyasCard.lean, 'card_holds'). Laid BY PROGRAM, IN A SANDBOX (cutbox-door.mjs). By AI agents, Wed Nov 11 2026. No macro, syntax, notation, axiom, sorry.
-/
import Derived.Test.YtdjmklobfjigoaaGreatDoorRows
import GoSem.ClaimSeven
namespace Go.Proofs.YtdjmklobfjigoaaGreatDoor
namespace Rows

/-- THE TIED CARD OF 'batchlinetop.TopLoops'. -/
def topLoopsCard : Claim7 := { stood := { row := topLoopsRow, standIns := [], harness := (true, "b9fa8151651d6e4be18b0c60ca2b04e2966f6943116e08ee45a2577c5883af8d"), looks := true }, kinds := [], alts := [], laidByText := true, laidKinds := [.data, .data, .data, .data, .sentinel, .sentinel, .pinned], laidTests := true, laidLooks := .later }
def TopLoopsCardSaid : Prop := Claim7.holds Tryz.pinned (.plain (OpenSpec.ofChange topLoopsSpec)) topLoopsCard

/-- THE TIED CARD OF 'batchlinetop.TopReturns'. -/
def topReturnsCard : Claim7 := { stood := { row := topReturnsRow, standIns := [], harness := (true, "b9fa8151651d6e4be18b0c60ca2b04e2966f6943116e08ee45a2577c5883af8d"), looks := true }, kinds := [], alts := [], laidByText := true, laidKinds := [.data, .data, .data, .data, .sentinel, .sentinel, .pinned], laidTests := true, laidLooks := .later }
def TopReturnsCardSaid : Prop := Claim7.holds Tryz.pinned (.plain (OpenSpec.ofChange topReturnsSpec)) topReturnsCard

/-- THE TIED CARD OF 'batchlinetop.TopWaves'. -/
def topWavesCard : Claim7 := { stood := { row := topWavesRow, standIns := [], harness := (true, "b9fa8151651d6e4be18b0c60ca2b04e2966f6943116e08ee45a2577c5883af8d"), looks := true }, kinds := [], alts := [], laidByText := true, laidKinds := [.data, .data, .data, .data, .sentinel, .sentinel, .pinned], laidTests := true, laidLooks := .later }
def TopWavesCardSaid : Prop := Claim7.holds Tryz.pinned (.plain (OpenSpec.ofChange topWavesSpec)) topWavesCard

/-- THE TIED CARD OF 'batchlinetop.TopConserves'. -/
def topConservesCard : Claim7 := { stood := { row := topConservesRow, standIns := [], harness := (true, "b9fa8151651d6e4be18b0c60ca2b04e2966f6943116e08ee45a2577c5883af8d"), looks := true }, kinds := [], alts := [], laidByText := true, laidKinds := [.data, .data, .data, .data, .sentinel, .sentinel, .pinned], laidTests := true, laidLooks := .later }
def TopConservesCardSaid : Prop := Claim7.holds Tryz.pinned (.plain (OpenSpec.ofChange topConservesSpec)) topConservesCard

/-- THE SECOND FORM's CARD OF 'batchlinetop.TopLoops'. -/
def topLoopsUptoCard : Claim7 := { stood := { row := topLoopsUptoRow, standIns := [], harness := (true, "b9fa8151651d6e4be18b0c60ca2b04e2966f6943116e08ee45a2577c5883af8d"), looks := true }, kinds := [], alts := [], laidByText := true, laidKinds := [.data, .data, .data, .data, .sentinel, .sentinel, .pinned], laidTests := true, laidLooks := .later }
def TopLoopsUptoCardSaid : Prop := Claim7.holds Tryz.pinned (.plain (OpenSpec.upto topLoopsSpec)) topLoopsUptoCard

/-- THE SECOND FORM's CARD OF 'batchlinetop.TopReturns'. -/
def topReturnsUptoCard : Claim7 := { stood := { row := topReturnsUptoRow, standIns := [], harness := (true, "b9fa8151651d6e4be18b0c60ca2b04e2966f6943116e08ee45a2577c5883af8d"), looks := true }, kinds := [], alts := [], laidByText := true, laidKinds := [.data, .data, .data, .data, .sentinel, .sentinel, .pinned], laidTests := true, laidLooks := .later }
def TopReturnsUptoCardSaid : Prop := Claim7.holds Tryz.pinned (.plain (OpenSpec.upto topReturnsSpec)) topReturnsUptoCard

/-- THE SECOND FORM's CARD OF 'batchlinetop.TopWaves'. -/
def topWavesUptoCard : Claim7 := { stood := { row := topWavesUptoRow, standIns := [], harness := (true, "b9fa8151651d6e4be18b0c60ca2b04e2966f6943116e08ee45a2577c5883af8d"), looks := true }, kinds := [], alts := [], laidByText := true, laidKinds := [.data, .data, .data, .data, .sentinel, .sentinel, .pinned], laidTests := true, laidLooks := .later }
def TopWavesUptoCardSaid : Prop := Claim7.holds Tryz.pinned (.plain (OpenSpec.upto topWavesSpec)) topWavesUptoCard

/-- THE SECOND FORM's CARD OF 'batchlinetop.TopConserves'. -/
def topConservesUptoCard : Claim7 := { stood := { row := topConservesUptoRow, standIns := [], harness := (true, "b9fa8151651d6e4be18b0c60ca2b04e2966f6943116e08ee45a2577c5883af8d"), looks := true }, kinds := [], alts := [], laidByText := true, laidKinds := [.data, .data, .data, .data, .sentinel, .sentinel, .pinned], laidTests := true, laidLooks := .later }
def TopConservesUptoCardSaid : Prop := Claim7.holds Tryz.pinned (.plain (OpenSpec.upto topConservesSpec)) topConservesUptoCard
end Rows
end Go.Proofs.YtdjmklobfjigoaaGreatDoor
