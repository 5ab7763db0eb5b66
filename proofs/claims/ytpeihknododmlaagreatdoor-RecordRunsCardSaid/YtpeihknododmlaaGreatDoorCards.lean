/-
  DERIVED. GIVEN WITH THE SEED: THE CARDS: each row of YtpeihknododmlaaGreatDoorRows.lean that lists a variable, with what it lists TIED to the program's text (the seventh form; the later family's looks); each row that meets fmt, with fmt's text TOLD by the authors' own Lean function (tested against real Go, not proved from fmt's source: count such statements apart). THE CARD IS WHAT COUNTS. Prove the row's statement (the work); the ties are given (YtpeihknododmlaaGreatDoorTie.lean); close each card by the builder's one call (the guide's Derived/Test/ToyasCard.lean, 'card_holds'). Laid BY PROGRAM, IN A SANDBOX (cutbox-door.mjs). By AI agents, Wed Nov 11 2026. No macro, syntax, notation, axiom, sorry.
-/
import Derived.Test.YtpeihknododmlaaGreatDoorRows
import GoSem.ClaimSeven
namespace Go.Proofs.YtpeihknododmlaaGreatDoor
namespace Rows

/-- THE TIED CARD OF 'rootcauselaw24.RecordRuns'. -/
def recordRunsCard : Claim7 := { stood := { row := recordRunsRow, standIns := [], harness := (true, "803289d9748d751591d3f5fd9bdaa58050d5186e47523c297b57b089bacb4f00"), looks := false }, kinds := [], alts := [], laidByText := true, laidKinds := [.data, .data, .data, .data, .data, .data, .data, .data, .data], laidTests := true, laidLooks := .later }
def RecordRunsCardSaid : Prop := Claim7.holds Tryz.pinned (.plain (OpenSpec.ofChange recordRunsSpec)) recordRunsCard

/-- THE SECOND FORM's CARD OF 'rootcauselaw24.RecordRuns'. -/
def recordRunsUptoCard : Claim7 := { stood := { row := recordRunsUptoRow, standIns := [], harness := (true, "803289d9748d751591d3f5fd9bdaa58050d5186e47523c297b57b089bacb4f00"), looks := false }, kinds := [], alts := [], laidByText := true, laidKinds := [.data, .data, .data, .data, .data, .data, .data, .data, .data], laidTests := true, laidLooks := .later }
def RecordRunsUptoCardSaid : Prop := Claim7.holds Tryz.pinned (.plain (OpenSpec.upto recordRunsSpec)) recordRunsUptoCard
end Rows
end Go.Proofs.YtpeihknododmlaaGreatDoor
