/-
  DERIVED. GIVEN WITH THE SEED: THE CARDS: each row of YtepkcbalmjnhpaaGreatDoorRows.lean that lists a variable, with what it lists TIED to the program's text (the seventh form; the later family's looks); each row that meets fmt, with fmt's text TOLD by the authors' own Lean function (tested against real Go, not proved from fmt's source: count such statements apart). THE CARD IS WHAT COUNTS. Prove the row's statement (the work); the ties are given (YtepkcbalmjnhpaaGreatDoorTie.lean); close each card by the builder's one call (the guide's Derived/Test/ToyasCard.lean, 'card_holds'). Laid BY PROGRAM, IN A SANDBOX (cutbox-door.mjs). By AI agents, Wed Nov 11 2026. No macro, syntax, notation, axiom, sorry.
-/
import Derived.Test.YtepkcbalmjnhpaaGreatDoorRows
import GoSem.ClaimSeven
namespace Go.Proofs.YtepkcbalmjnhpaaGreatDoor
namespace Rows

/-- THE TIED CARD OF 'rootcauselaw28.RecorderRecords'. -/
def recorderRecordsCard : Claim7 := { stood := { row := recorderRecordsRow, standIns := [], harness := (true, "0132e2d0b97d3721cf0b40f2a77afd74ee0c34ffd85f8634b6be05885a650aab"), looks := false }, kinds := [], alts := [], laidByText := true, laidKinds := [.data, .data, .data], laidTests := true, laidLooks := .later }
def RecorderRecordsCardSaid : Prop := Claim7.holds Tryz.pinned (.plain (OpenSpec.ofChange recorderRecordsSpec)) recorderRecordsCard

/-- THE TIED CARD OF 'rootcauselaw28.RecorderWrites'. -/
def recorderWritesCard : Claim7 := { stood := { row := recorderWritesRow, standIns := [], harness := (true, "0132e2d0b97d3721cf0b40f2a77afd74ee0c34ffd85f8634b6be05885a650aab"), looks := false }, kinds := [], alts := [], laidByText := true, laidKinds := [.data, .data, .data], laidTests := true, laidLooks := .later }
def RecorderWritesCardSaid : Prop := Claim7.holds Tryz.pinned (.plain (OpenSpec.ofChange recorderWritesSpec)) recorderWritesCard

/-- THE TIED CARD OF 'rootcauselaw32.GapTexts'. -/
def gapTextsCard : Claim7 := { stood := { row := gapTextsRow, standIns := [], harness := (true, "0132e2d0b97d3721cf0b40f2a77afd74ee0c34ffd85f8634b6be05885a650aab"), looks := false }, kinds := [], alts := [], laidByText := true, laidKinds := [.data, .data, .data], laidTests := true, laidLooks := .later }
def GapTextsCardSaid : Prop := Claim7.holds Tryz.pinned (.plain (OpenSpec.ofChange gapTextsSpec)) gapTextsCard

/-- THE SECOND FORM's CARD OF 'rootcauselaw28.RecorderRecords'. -/
def recorderRecordsUptoCard : Claim7 := { stood := { row := recorderRecordsUptoRow, standIns := [], harness := (true, "0132e2d0b97d3721cf0b40f2a77afd74ee0c34ffd85f8634b6be05885a650aab"), looks := false }, kinds := [], alts := [], laidByText := true, laidKinds := [.data, .data, .data], laidTests := true, laidLooks := .later }
def RecorderRecordsUptoCardSaid : Prop := Claim7.holds Tryz.pinned (.plain (OpenSpec.upto recorderRecordsSpec)) recorderRecordsUptoCard

/-- THE SECOND FORM's CARD OF 'rootcauselaw28.RecorderWrites'. -/
def recorderWritesUptoCard : Claim7 := { stood := { row := recorderWritesUptoRow, standIns := [], harness := (true, "0132e2d0b97d3721cf0b40f2a77afd74ee0c34ffd85f8634b6be05885a650aab"), looks := false }, kinds := [], alts := [], laidByText := true, laidKinds := [.data, .data, .data], laidTests := true, laidLooks := .later }
def RecorderWritesUptoCardSaid : Prop := Claim7.holds Tryz.pinned (.plain (OpenSpec.upto recorderWritesSpec)) recorderWritesUptoCard

/-- THE SECOND FORM's CARD OF 'rootcauselaw32.GapTexts'. -/
def gapTextsUptoCard : Claim7 := { stood := { row := gapTextsUptoRow, standIns := [], harness := (true, "0132e2d0b97d3721cf0b40f2a77afd74ee0c34ffd85f8634b6be05885a650aab"), looks := false }, kinds := [], alts := [], laidByText := true, laidKinds := [.data, .data, .data], laidTests := true, laidLooks := .later }
def GapTextsUptoCardSaid : Prop := Claim7.holds Tryz.pinned (.plain (OpenSpec.upto gapTextsSpec)) gapTextsUptoCard
end Rows
end Go.Proofs.YtepkcbalmjnhpaaGreatDoor
