/-
  DERIVED. GIVEN WITH THE SEED: THE CARDS: each row of YtifaebmmbpkclaaDoorRows.lean that lists a variable, with what it lists TIED to the program's text (the seventh form; the later family's looks); each row that meets fmt, with fmt's text TOLD by the authors' own Lean function (tested against real Go, not proved from fmt's source: count such statements apart). THE CARD IS WHAT COUNTS. Prove the row's statement (the work); the ties are given (YtifaebmmbpkclaaDoorTie.lean); close each card by the builder's one call (the guide's Derived/Test/ToyasCard.lean, 'card_holds'). Laid BY PROGRAM, IN A SANDBOX (cutbox-door.mjs). By AI agents, Wed Nov 11 2026. No macro, syntax, notation, axiom, sorry.
-/
import Derived.Test.YtifaebmmbpkclaaDoorRows
import GoSem.ClaimSeven
namespace Go.Proofs.YtifaebmmbpkclaaDoor
namespace Rows

/-- THE TIED CARD OF 'rootcauselaw28.RecorderClocks'. -/
def recorderClocksCard : Claim7 := { stood := { row := recorderClocksRow, standIns := [], harness := (true, "247dfa995dc918471dc59780848bb4c8d2b0a480175da6c0522e2f7baf1268c7"), looks := false }, kinds := [], alts := [], laidByText := true, laidKinds := [.data, .data, .data], laidTests := true, laidLooks := .later }
def RecorderClocksCardSaid : Prop := Claim7.holds Tryd.pinned (.plain (OpenSpec.ofChange recorderClocksSpec)) recorderClocksCard

/-- THE SECOND FORM's CARD OF 'rootcauselaw28.RecorderClocks'. -/
def recorderClocksUptoCard : Claim7 := { stood := { row := recorderClocksUptoRow, standIns := [], harness := (true, "247dfa995dc918471dc59780848bb4c8d2b0a480175da6c0522e2f7baf1268c7"), looks := false }, kinds := [], alts := [], laidByText := true, laidKinds := [.data, .data, .data], laidTests := true, laidLooks := .later }
def RecorderClocksUptoCardSaid : Prop := Claim7.holds Tryd.pinned (.plain (OpenSpec.upto recorderClocksSpec)) recorderClocksUptoCard
end Rows
end Go.Proofs.YtifaebmmbpkclaaDoor
