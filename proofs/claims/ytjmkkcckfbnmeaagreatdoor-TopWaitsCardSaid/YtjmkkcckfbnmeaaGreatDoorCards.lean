/-
  DERIVED. GIVEN WITH THE SEED: THE CARDS: each row of YtjmkkcckfbnmeaaGreatDoorRows.lean that lists a variable, with what it lists TIED to the program's text (the seventh form; the later family's looks); each row that meets fmt, with fmt's text TOLD by the authors' own Lean function (tested against real Go, not proved from fmt's source: count such statements apart). THE CARD IS WHAT COUNTS. Prove the row's statement (the work); the ties are given (YtjmkkcckfbnmeaaGreatDoorTie.lean); close each card by the builder's one call (the guide's Derived/Test/ToyasCard.lean, 'card_holds'). Laid BY PROGRAM, IN A SANDBOX (cutbox-door.mjs). By AI agents, Wed Nov 11 2026. No macro, syntax, notation, axiom, sorry.
-/
import Derived.Test.YtjmkkcckfbnmeaaGreatDoorRows
import GoSem.ClaimSeven
namespace Go.Proofs.YtjmkkcckfbnmeaaGreatDoor
namespace Rows

/-- THE TIED CARD OF 'hentop.TopWaits'. -/
def topWaitsCard : Claim7 := { stood := { row := topWaitsRow, standIns := [], harness := (true, "2805e8bef173d2f7b8cb222b4e5f47c14f9ccfbaa925c61ee4bb3d4ff9d090c5"), looks := false }, kinds := [], alts := [], laidByText := true, laidKinds := [.data, .data, .data, .data, .pinned], laidTests := true, laidLooks := .later }
def TopWaitsCardSaid : Prop := Claim7.holds Tryz.pinned (.plain (OpenSpec.ofChange topWaitsSpec)) topWaitsCard

/-- THE SECOND FORM's CARD OF 'hentop.TopWaits'. -/
def topWaitsUptoCard : Claim7 := { stood := { row := topWaitsUptoRow, standIns := [], harness := (true, "2805e8bef173d2f7b8cb222b4e5f47c14f9ccfbaa925c61ee4bb3d4ff9d090c5"), looks := false }, kinds := [], alts := [], laidByText := true, laidKinds := [.data, .data, .data, .data, .pinned], laidTests := true, laidLooks := .later }
def TopWaitsUptoCardSaid : Prop := Claim7.holds Tryz.pinned (.plain (OpenSpec.upto topWaitsSpec)) topWaitsUptoCard
end Rows
end Go.Proofs.YtjmkkcckfbnmeaaGreatDoor
