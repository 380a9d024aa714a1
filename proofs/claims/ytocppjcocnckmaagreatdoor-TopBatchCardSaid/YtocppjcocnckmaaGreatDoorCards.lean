/-
  DERIVED. GIVEN WITH THE SEED: THE CARDS: each row of YtocppjcocnckmaaGreatDoorRows.lean that lists a variable, with what it lists TIED to the program's text (the seventh form; the later family's looks); each row that meets fmt, with fmt's text TOLD by the authors' own Lean function (tested against real Go, not proved from fmt's source: count such statements apart). THE CARD IS WHAT COUNTS. Prove the row's statement (the work); the ties are given (YtocppjcocnckmaaGreatDoorTie.lean); close each card by the builder's one call (the guide's Derived/Test/ToyasCard.lean, 'card_holds'). Laid BY PROGRAM, IN A SANDBOX (cutbox-door.mjs). By AI agents, Wed Nov 11 2026. No macro, syntax, notation, axiom, sorry.
-/
import Derived.Test.YtocppjcocnckmaaGreatDoorRows
import GoSem.ClaimSeven
namespace Go.Proofs.YtocppjcocnckmaaGreatDoor
namespace Rows

/-- THE TIED CARD OF 'hentop.TopBatch'. -/
def topBatchCard : Claim7 := { stood := { row := topBatchRow, standIns := [], harness := (true, "9a4c5578036adb176f41c517b5957528ba0bbfe1cf5c39b85dd0bdcd5d3dbb86"), looks := false }, kinds := [], alts := [], laidByText := true, laidKinds := [.data, .data, .data, .data, .pinned], laidTests := true, laidLooks := .later }
def TopBatchCardSaid : Prop := Claim7.holds Tryz.pinned (.plain (OpenSpec.ofChange topBatchSpec)) topBatchCard

/-- THE SECOND FORM's CARD OF 'hentop.TopBatch'. -/
def topBatchUptoCard : Claim7 := { stood := { row := topBatchUptoRow, standIns := [], harness := (true, "9a4c5578036adb176f41c517b5957528ba0bbfe1cf5c39b85dd0bdcd5d3dbb86"), looks := false }, kinds := [], alts := [], laidByText := true, laidKinds := [.data, .data, .data, .data, .pinned], laidTests := true, laidLooks := .later }
def TopBatchUptoCardSaid : Prop := Claim7.holds Tryz.pinned (.plain (OpenSpec.upto topBatchSpec)) topBatchUptoCard
end Rows
end Go.Proofs.YtocppjcocnckmaaGreatDoor
