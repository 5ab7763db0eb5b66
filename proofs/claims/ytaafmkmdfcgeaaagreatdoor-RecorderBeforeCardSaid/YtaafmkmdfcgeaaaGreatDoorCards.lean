/-
  DERIVED. GIVEN WITH THE SEED: THE CARDS: each row of YtaafmkmdfcgeaaaGreatDoorRows.lean that lists a variable, with what it lists TIED to the program's text (the seventh form; the later family's looks); each row that meets fmt, with fmt's text TOLD by the authors' own Lean function (tested against real Go, not proved from fmt's source: count such statements apart). THE CARD IS WHAT COUNTS. Prove the row's statement (the work); the ties are given (YtaafmkmdfcgeaaaGreatDoorTie.lean); close each card by the builder's one call (the guide's Derived/Test/ToyasCard.lean, 'card_holds'). Laid BY PROGRAM, IN A SANDBOX (cutbox-door.mjs). By AI agents, Wed Nov 11 2026. No macro, syntax, notation, axiom, sorry.
-/
import Derived.Test.YtaafmkmdfcgeaaaGreatDoorRows
import GoSem.ClaimSeven
namespace Go.Proofs.YtaafmkmdfcgeaaaGreatDoor
namespace Rows

/-- THE TIED CARD OF 'rootcauselaw28.RecorderBefore'. -/
def recorderBeforeCard : Claim7 := { stood := { row := recorderBeforeRow, standIns := [], harness := (true, "75d96733420d3a248248273548854768cead030507bf9e2d4a57c2c91043e91a"), looks := false }, kinds := [], alts := [], laidByText := true, laidKinds := [.data, .data, .data, .data, .data, .data, .data, .data, .data], laidTests := true, laidLooks := .later }
def RecorderBeforeCardSaid : Prop := Claim7.holds Tryz.pinned (.plain (OpenSpec.ofChange recorderBeforeSpec)) recorderBeforeCard

/-- THE SECOND FORM's CARD OF 'rootcauselaw28.RecorderBefore'. -/
def recorderBeforeUptoCard : Claim7 := { stood := { row := recorderBeforeUptoRow, standIns := [], harness := (true, "75d96733420d3a248248273548854768cead030507bf9e2d4a57c2c91043e91a"), looks := false }, kinds := [], alts := [], laidByText := true, laidKinds := [.data, .data, .data, .data, .data, .data, .data, .data, .data], laidTests := true, laidLooks := .later }
def RecorderBeforeUptoCardSaid : Prop := Claim7.holds Tryz.pinned (.plain (OpenSpec.upto recorderBeforeSpec)) recorderBeforeUptoCard
end Rows
end Go.Proofs.YtaafmkmdfcgeaaaGreatDoor
