/-
  DERIVED. GIVEN WITH THE SEED: THE CARDS: each row of YtifaebmmbpkclaaGreatDoorRows.lean that lists a variable, with what it lists TIED to the program's text (the seventh form; the later family's looks); each row that meets fmt, with fmt's text TOLD by the authors' own Lean function (tested against real Go, not proved from fmt's source: count such statements apart). THE CARD IS WHAT COUNTS. Prove the row's statement (the work); the ties are given (YtifaebmmbpkclaaGreatDoorTie.lean); close each card by the builder's one call (the guide's Derived/Test/ToyasCard.lean, 'card_holds'). Laid BY PROGRAM, IN A SANDBOX (cutbox-door.mjs). By AI agents, Wed Nov 11 2026. No macro, syntax, notation, axiom, sorry.
-/
import Derived.Test.YtifaebmmbpkclaaGreatDoorRows
import GoSem.ClaimSeven
namespace Go.Proofs.YtifaebmmbpkclaaGreatDoor
namespace Rows

/-- THE TIED CARD OF 'rootcauselaw28.RecorderRecords'. -/
def recorderRecordsCard : Claim7 := { stood := { row := recorderRecordsRow, standIns := [], harness := (true, "0082deb5530a332ceb7cc4a955d139dabd4eb7d653dd066db8377a6a3644b0ab"), looks := false }, kinds := [], alts := [], laidByText := true, laidKinds := [.data, .data, .data], laidTests := true, laidLooks := .later }
def RecorderRecordsCardSaid : Prop := Claim7.holds Tryz.pinned (.plain (OpenSpec.ofChange recorderRecordsSpec)) recorderRecordsCard

/-- THE TIED CARD OF 'rootcauselaw28.RecorderWrites'. -/
def recorderWritesCard : Claim7 := { stood := { row := recorderWritesRow, standIns := [], harness := (true, "0082deb5530a332ceb7cc4a955d139dabd4eb7d653dd066db8377a6a3644b0ab"), looks := false }, kinds := [], alts := [], laidByText := true, laidKinds := [.data, .data, .data], laidTests := true, laidLooks := .later }
def RecorderWritesCardSaid : Prop := Claim7.holds Tryz.pinned (.plain (OpenSpec.ofChange recorderWritesSpec)) recorderWritesCard

/-- THE SECOND FORM's CARD OF 'rootcauselaw28.RecorderRecords'. -/
def recorderRecordsUptoCard : Claim7 := { stood := { row := recorderRecordsUptoRow, standIns := [], harness := (true, "0082deb5530a332ceb7cc4a955d139dabd4eb7d653dd066db8377a6a3644b0ab"), looks := false }, kinds := [], alts := [], laidByText := true, laidKinds := [.data, .data, .data], laidTests := true, laidLooks := .later }
def RecorderRecordsUptoCardSaid : Prop := Claim7.holds Tryz.pinned (.plain (OpenSpec.upto recorderRecordsSpec)) recorderRecordsUptoCard

/-- THE SECOND FORM's CARD OF 'rootcauselaw28.RecorderWrites'. -/
def recorderWritesUptoCard : Claim7 := { stood := { row := recorderWritesUptoRow, standIns := [], harness := (true, "0082deb5530a332ceb7cc4a955d139dabd4eb7d653dd066db8377a6a3644b0ab"), looks := false }, kinds := [], alts := [], laidByText := true, laidKinds := [.data, .data, .data], laidTests := true, laidLooks := .later }
def RecorderWritesUptoCardSaid : Prop := Claim7.holds Tryz.pinned (.plain (OpenSpec.upto recorderWritesSpec)) recorderWritesUptoCard
end Rows
end Go.Proofs.YtifaebmmbpkclaaGreatDoor
