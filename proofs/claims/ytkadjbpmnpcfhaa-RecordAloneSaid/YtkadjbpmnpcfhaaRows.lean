/-
  No cell of these rows narrows 'for every input' (looked for: loops, veiled, ifaces, maps, wideKeys, modest, calm, conditions, laid).
  DERIVED. THE GIVEN ROWS OF THIS SEAT. 15 by the template 'for every input the law returns true; each argument reads behind the call as it read before'; 0 by the template 'total and deterministic' (their statements: YtkadjbpmnpcfhaaTotals.lean).
  GIVEN WITH THE SEED: the statements are not yours to turn. If you find one false, say at which input.
  Laid BY PROGRAM, IN A SANDBOX (cutbox-rows.mjs): the forced cells as the released guide's own fill.sh prints them over the translation 6691735d11ce422f… (all of the seat's roots in one cut). By AI agents, Wed Nov 11 2026. No macro, syntax, notation, axiom, sorry.
-/
import Derived.Test.YtkadjbpmnpcfhaaChecked
import GoSem.Claim
import GoSem.ClaimJoined
import GoSem.ClaimMapViews
import Derived.JoinedTies
import Derived.KernelRfl
namespace Go.Proofs.Ytkadjbpmnpcfhaa
/- THE CELL 'sum', in the pinned program and in every row, IS THE sha256 OF THE DUMP (.gsa) THAT YtkadjbpmnpcfhaaProg.lean LOADS. Nothing in Lean hashes anything: it is a label: what it is worth is what the hold of that sum in a sandbox is worth. -/
noncomputable def Try.pinned : Pinned := { name := "ytkadjbpmnpcfhaa", sum := "6691735d11ce422f2db5050a29ebfe213b8a53501bfd467056a4d49c63457a60", checked := Try.checked }
namespace Rows
def none {H : Type} : Left H := { results := [], args := [] }

/-- 'rootcauselaw24.RecordChecks': WHATEVER THE INPUT: true; the input reads as it did. -/
def recordChecksSpec : ChangeSpec := { name := "recordChecks", fn := fun _ => fun
  | [d] => { results := [.lit (.bool true)], args := [d] }
  | _ => none }
def recordChecksRow : OpenClaim := { program := "ytkadjbpmnpcfhaa", sum := "6691735d11ce422f2db5050a29ebfe213b8a53501bfd467056a4d49c63457a60", func := "rootcause/rootcauselaw24.RecordChecks", spec := "recordChecks", apart := false }
def RecordChecksSaid : Prop := recordChecksRow.holds Try.pinned (OpenSpec.ofChange recordChecksSpec)

/-- ITS FALSE NEIGHBOUR: 'it returns false'. Refute it at one input. -/
def recordChecksWrong : ChangeSpec := { name := "recordChecks", fn := fun _ => fun
  | [d] => { results := [.lit (.bool false)], args := [d] }
  | _ => none }
def RecordChecksWrongFalsely : Prop := recordChecksRow.holds Try.pinned (OpenSpec.ofChange recordChecksWrong)

/-- 'rootcauselaw24.RecordBytes': WHATEVER THE INPUT: true; the input reads as it did. -/
def recordBytesSpec : ChangeSpec := { name := "recordBytes", fn := fun _ => fun
  | [d] => { results := [.lit (.bool true)], args := [d] }
  | _ => none }
def recordBytesRow : OpenClaim := { program := "ytkadjbpmnpcfhaa", sum := "6691735d11ce422f2db5050a29ebfe213b8a53501bfd467056a4d49c63457a60", func := "rootcause/rootcauselaw24.RecordBytes", spec := "recordBytes", apart := false }
def RecordBytesSaid : Prop := recordBytesRow.holds Try.pinned (OpenSpec.ofChange recordBytesSpec)

/-- ITS FALSE NEIGHBOUR: 'it returns false'. Refute it at one input. -/
def recordBytesWrong : ChangeSpec := { name := "recordBytes", fn := fun _ => fun
  | [d] => { results := [.lit (.bool false)], args := [d] }
  | _ => none }
def RecordBytesWrongFalsely : Prop := recordBytesRow.holds Try.pinned (OpenSpec.ofChange recordBytesWrong)

/-- 'rootcauselaw24.RecordEquals': WHATEVER THE INPUT: true; the input reads as it did. -/
def recordEqualsSpec : ChangeSpec := { name := "recordEquals", fn := fun _ => fun
  | [d1, d2] => { results := [.lit (.bool true)], args := [d1, d2] }
  | _ => none }
def recordEqualsRow : OpenClaim := { program := "ytkadjbpmnpcfhaa", sum := "6691735d11ce422f2db5050a29ebfe213b8a53501bfd467056a4d49c63457a60", func := "rootcause/rootcauselaw24.RecordEquals", spec := "recordEquals", apart := false }
def RecordEqualsSaid : Prop := recordEqualsRow.holds Try.pinned (OpenSpec.ofChange recordEqualsSpec)

/-- ITS FALSE NEIGHBOUR: 'it returns false'. Refute it at one input. -/
def recordEqualsWrong : ChangeSpec := { name := "recordEquals", fn := fun _ => fun
  | [d1, d2] => { results := [.lit (.bool false)], args := [d1, d2] }
  | _ => none }
def RecordEqualsWrongFalsely : Prop := recordEqualsRow.holds Try.pinned (OpenSpec.ofChange recordEqualsWrong)

/-- 'rootcauselaw24.RecordSpoilt': WHATEVER THE INPUT: true; the input reads as it did. -/
def recordSpoiltSpec : ChangeSpec := { name := "recordSpoilt", fn := fun _ => fun
  | [d1, d2, d3] => { results := [.lit (.bool true)], args := [d1, d2, d3] }
  | _ => none }
def recordSpoiltRow : OpenClaim := { program := "ytkadjbpmnpcfhaa", sum := "6691735d11ce422f2db5050a29ebfe213b8a53501bfd467056a4d49c63457a60", func := "rootcause/rootcauselaw24.RecordSpoilt", spec := "recordSpoilt", unfollowed := true, recurses := true, apart := false }
def RecordSpoiltSaid : Prop := recordSpoiltRow.holds Try.pinned (OpenSpec.ofChange recordSpoiltSpec)

/-- ITS FALSE NEIGHBOUR: 'it returns false'. Refute it at one input. -/
def recordSpoiltWrong : ChangeSpec := { name := "recordSpoilt", fn := fun _ => fun
  | [d1, d2, d3] => { results := [.lit (.bool false)], args := [d1, d2, d3] }
  | _ => none }
def RecordSpoiltWrongFalsely : Prop := recordSpoiltRow.holds Try.pinned (OpenSpec.ofChange recordSpoiltWrong)

/-- 'rootcauselaw24.RecordAlone': WHATEVER THE INPUT: true; the input reads as it did. -/
def recordAloneSpec : ChangeSpec := { name := "recordAlone", fn := fun _ => fun
  | [d1, d2] => { results := [.lit (.bool true)], args := [d1, d2] }
  | _ => none }
def recordAloneRow : OpenClaim := { program := "ytkadjbpmnpcfhaa", sum := "6691735d11ce422f2db5050a29ebfe213b8a53501bfd467056a4d49c63457a60", func := "rootcause/rootcauselaw24.RecordAlone", spec := "recordAlone", unfollowed := true, recurses := true, apart := false }
def RecordAloneSaid : Prop := recordAloneRow.holds Try.pinned (OpenSpec.ofChange recordAloneSpec)

/-- ITS FALSE NEIGHBOUR: 'it returns false'. Refute it at one input. -/
def recordAloneWrong : ChangeSpec := { name := "recordAlone", fn := fun _ => fun
  | [d1, d2] => { results := [.lit (.bool false)], args := [d1, d2] }
  | _ => none }
def RecordAloneWrongFalsely : Prop := recordAloneRow.holds Try.pinned (OpenSpec.ofChange recordAloneWrong)

/-- 'rootcauselaw24.RecordAny': WHATEVER THE INPUT: true; the input reads as it did. -/
def recordAnySpec : ChangeSpec := { name := "recordAny", fn := fun _ => fun
  | [d] => { results := [.lit (.bool true)], args := [d] }
  | _ => none }
def recordAnyRow : OpenClaim := { program := "ytkadjbpmnpcfhaa", sum := "6691735d11ce422f2db5050a29ebfe213b8a53501bfd467056a4d49c63457a60", func := "rootcause/rootcauselaw24.RecordAny", spec := "recordAny", unfollowed := true, recurses := true, apart := false }
def RecordAnySaid : Prop := recordAnyRow.holds Try.pinned (OpenSpec.ofChange recordAnySpec)

/-- ITS FALSE NEIGHBOUR: 'it returns false'. Refute it at one input. -/
def recordAnyWrong : ChangeSpec := { name := "recordAny", fn := fun _ => fun
  | [d] => { results := [.lit (.bool false)], args := [d] }
  | _ => none }
def RecordAnyWrongFalsely : Prop := recordAnyRow.holds Try.pinned (OpenSpec.ofChange recordAnyWrong)

/-- 'rootcauselaw27.BudgetClasses': WHATEVER THE INPUT: true; the input reads as it did. -/
def budgetClassesSpec : ChangeSpec := { name := "budgetClasses", fn := fun _ => fun
  | [d] => { results := [.lit (.bool true)], args := [d] }
  | _ => none }
def budgetClassesRow : OpenClaim := { program := "ytkadjbpmnpcfhaa", sum := "6691735d11ce422f2db5050a29ebfe213b8a53501bfd467056a4d49c63457a60", func := "rootcause/rootcauselaw27.BudgetClasses", spec := "budgetClasses", named := ["math/bits.divideError", "math/bits.overflowError"], apart := false }
def BudgetClassesSaid : Prop := budgetClassesRow.holds Try.pinned (OpenSpec.ofChange budgetClassesSpec)

/-- ITS FALSE NEIGHBOUR: 'it returns false'. Refute it at one input. -/
def budgetClassesWrong : ChangeSpec := { name := "budgetClasses", fn := fun _ => fun
  | [d] => { results := [.lit (.bool false)], args := [d] }
  | _ => none }
def BudgetClassesWrongFalsely : Prop := budgetClassesRow.holds Try.pinned (OpenSpec.ofChange budgetClassesWrong)

/-- 'rootcauselaw27.BudgetSpreads': WHATEVER THE INPUT: true; the input reads as it did. -/
def budgetSpreadsSpec : ChangeSpec := { name := "budgetSpreads", fn := fun _ => fun
  | [d1, d2] => { results := [.lit (.bool true)], args := [d1, d2] }
  | _ => none }
def budgetSpreadsRow : OpenClaim := { program := "ytkadjbpmnpcfhaa", sum := "6691735d11ce422f2db5050a29ebfe213b8a53501bfd467056a4d49c63457a60", func := "rootcause/rootcauselaw27.BudgetSpreads", spec := "budgetSpreads", named := ["math/bits.divideError", "math/bits.overflowError"], apart := false }
def BudgetSpreadsSaid : Prop := budgetSpreadsRow.holds Try.pinned (OpenSpec.ofChange budgetSpreadsSpec)

/-- ITS FALSE NEIGHBOUR: 'it returns false'. Refute it at one input. -/
def budgetSpreadsWrong : ChangeSpec := { name := "budgetSpreads", fn := fun _ => fun
  | [d1, d2] => { results := [.lit (.bool false)], args := [d1, d2] }
  | _ => none }
def BudgetSpreadsWrongFalsely : Prop := budgetSpreadsRow.holds Try.pinned (OpenSpec.ofChange budgetSpreadsWrong)

/-- 'rootcauselaw27.BudgetPlans': WHATEVER THE INPUT: true; the input reads as it did. -/
def budgetPlansSpec : ChangeSpec := { name := "budgetPlans", fn := fun _ => fun
  | [d1, d2] => { results := [.lit (.bool true)], args := [d1, d2] }
  | _ => none }
def budgetPlansRow : OpenClaim := { program := "ytkadjbpmnpcfhaa", sum := "6691735d11ce422f2db5050a29ebfe213b8a53501bfd467056a4d49c63457a60", func := "rootcause/rootcauselaw27.BudgetPlans", spec := "budgetPlans", named := ["math/bits.divideError", "math/bits.overflowError"], apart := false }
def BudgetPlansSaid : Prop := budgetPlansRow.holds Try.pinned (OpenSpec.ofChange budgetPlansSpec)

/-- ITS FALSE NEIGHBOUR: 'it returns false'. Refute it at one input. -/
def budgetPlansWrong : ChangeSpec := { name := "budgetPlans", fn := fun _ => fun
  | [d1, d2] => { results := [.lit (.bool false)], args := [d1, d2] }
  | _ => none }
def BudgetPlansWrongFalsely : Prop := budgetPlansRow.holds Try.pinned (OpenSpec.ofChange budgetPlansWrong)

/-- 'rootcauselaw27.BudgetFits': WHATEVER THE INPUT: true; the input reads as it did. -/
def budgetFitsSpec : ChangeSpec := { name := "budgetFits", fn := fun _ => fun
  | [d1, d2] => { results := [.lit (.bool true)], args := [d1, d2] }
  | _ => none }
def budgetFitsRow : OpenClaim := { program := "ytkadjbpmnpcfhaa", sum := "6691735d11ce422f2db5050a29ebfe213b8a53501bfd467056a4d49c63457a60", func := "rootcause/rootcauselaw27.BudgetFits", spec := "budgetFits", named := ["math/bits.divideError", "math/bits.overflowError"], apart := false }
def BudgetFitsSaid : Prop := budgetFitsRow.holds Try.pinned (OpenSpec.ofChange budgetFitsSpec)

/-- ITS FALSE NEIGHBOUR: 'it returns false'. Refute it at one input. -/
def budgetFitsWrong : ChangeSpec := { name := "budgetFits", fn := fun _ => fun
  | [d1, d2] => { results := [.lit (.bool false)], args := [d1, d2] }
  | _ => none }
def BudgetFitsWrongFalsely : Prop := budgetFitsRow.holds Try.pinned (OpenSpec.ofChange budgetFitsWrong)

/-- 'rootcauselaw27.BudgetFirst': WHATEVER THE INPUT: true; the input reads as it did. -/
def budgetFirstSpec : ChangeSpec := { name := "budgetFirst", fn := fun _ => fun
  | [d1, d2] => { results := [.lit (.bool true)], args := [d1, d2] }
  | _ => none }
def budgetFirstRow : OpenClaim := { program := "ytkadjbpmnpcfhaa", sum := "6691735d11ce422f2db5050a29ebfe213b8a53501bfd467056a4d49c63457a60", func := "rootcause/rootcauselaw27.BudgetFirst", spec := "budgetFirst", named := ["math/bits.divideError", "math/bits.overflowError"], apart := false }
def BudgetFirstSaid : Prop := budgetFirstRow.holds Try.pinned (OpenSpec.ofChange budgetFirstSpec)

/-- ITS FALSE NEIGHBOUR: 'it returns false'. Refute it at one input. -/
def budgetFirstWrong : ChangeSpec := { name := "budgetFirst", fn := fun _ => fun
  | [d1, d2] => { results := [.lit (.bool false)], args := [d1, d2] }
  | _ => none }
def BudgetFirstWrongFalsely : Prop := budgetFirstRow.holds Try.pinned (OpenSpec.ofChange budgetFirstWrong)

/-- 'rootcauselaw27.BudgetGrows': WHATEVER THE INPUT: true; the input reads as it did. -/
def budgetGrowsSpec : ChangeSpec := { name := "budgetGrows", fn := fun _ => fun
  | [d1, d2, d3] => { results := [.lit (.bool true)], args := [d1, d2, d3] }
  | _ => none }
def budgetGrowsRow : OpenClaim := { program := "ytkadjbpmnpcfhaa", sum := "6691735d11ce422f2db5050a29ebfe213b8a53501bfd467056a4d49c63457a60", func := "rootcause/rootcauselaw27.BudgetGrows", spec := "budgetGrows", named := ["math/bits.divideError", "math/bits.overflowError"], apart := false }
def BudgetGrowsSaid : Prop := budgetGrowsRow.holds Try.pinned (OpenSpec.ofChange budgetGrowsSpec)

/-- ITS FALSE NEIGHBOUR: 'it returns false'. Refute it at one input. -/
def budgetGrowsWrong : ChangeSpec := { name := "budgetGrows", fn := fun _ => fun
  | [d1, d2, d3] => { results := [.lit (.bool false)], args := [d1, d2, d3] }
  | _ => none }
def BudgetGrowsWrongFalsely : Prop := budgetGrowsRow.holds Try.pinned (OpenSpec.ofChange budgetGrowsWrong)

/-- 'rootcauselaw27.BudgetEnds': WHATEVER THE INPUT: true; the input reads as it did. -/
def budgetEndsSpec : ChangeSpec := { name := "budgetEnds", fn := fun _ => fun
  | [d1, d2] => { results := [.lit (.bool true)], args := [d1, d2] }
  | _ => none }
def budgetEndsRow : OpenClaim := { program := "ytkadjbpmnpcfhaa", sum := "6691735d11ce422f2db5050a29ebfe213b8a53501bfd467056a4d49c63457a60", func := "rootcause/rootcauselaw27.BudgetEnds", spec := "budgetEnds", named := ["math/bits.divideError", "math/bits.overflowError"], apart := false }
def BudgetEndsSaid : Prop := budgetEndsRow.holds Try.pinned (OpenSpec.ofChange budgetEndsSpec)

/-- ITS FALSE NEIGHBOUR: 'it returns false'. Refute it at one input. -/
def budgetEndsWrong : ChangeSpec := { name := "budgetEnds", fn := fun _ => fun
  | [d1, d2] => { results := [.lit (.bool false)], args := [d1, d2] }
  | _ => none }
def BudgetEndsWrongFalsely : Prop := budgetEndsRow.holds Try.pinned (OpenSpec.ofChange budgetEndsWrong)

/-- 'rootcauselaw27.BudgetEven': WHATEVER THE INPUT: true; the input reads as it did. -/
def budgetEvenSpec : ChangeSpec := { name := "budgetEven", fn := fun _ => fun
  | [d1, d2] => { results := [.lit (.bool true)], args := [d1, d2] }
  | _ => none }
def budgetEvenRow : OpenClaim := { program := "ytkadjbpmnpcfhaa", sum := "6691735d11ce422f2db5050a29ebfe213b8a53501bfd467056a4d49c63457a60", func := "rootcause/rootcauselaw27.BudgetEven", spec := "budgetEven", named := ["math/bits.divideError", "math/bits.overflowError"], apart := false }
def BudgetEvenSaid : Prop := budgetEvenRow.holds Try.pinned (OpenSpec.ofChange budgetEvenSpec)

/-- ITS FALSE NEIGHBOUR: 'it returns false'. Refute it at one input. -/
def budgetEvenWrong : ChangeSpec := { name := "budgetEven", fn := fun _ => fun
  | [d1, d2] => { results := [.lit (.bool false)], args := [d1, d2] }
  | _ => none }
def BudgetEvenWrongFalsely : Prop := budgetEvenRow.holds Try.pinned (OpenSpec.ofChange budgetEvenWrong)

/-- 'rootcauselaw24.RecordReads': WHATEVER THE INPUT: true; the input reads as it did. -/
def recordReadsSpec : ChangeSpec := { name := "recordReads", fn := fun _ => fun
  | [d1, d2, d3] => { results := [.lit (.bool true)], args := [d1, d2, d3] }
  | _ => none }
def recordReadsRow : OpenClaim := { program := "ytkadjbpmnpcfhaa", sum := "6691735d11ce422f2db5050a29ebfe213b8a53501bfd467056a4d49c63457a60", func := "rootcause/rootcauselaw24.RecordReads", spec := "recordReads", unfollowed := true, recurses := true, apart := false }
def RecordReadsSaid : Prop := recordReadsRow.holds Try.pinned (OpenSpec.ofChange recordReadsSpec)

/-- ITS FALSE NEIGHBOUR: 'it returns false'. Refute it at one input. -/
def recordReadsWrong : ChangeSpec := { name := "recordReads", fn := fun _ => fun
  | [d1, d2, d3] => { results := [.lit (.bool false)], args := [d1, d2, d3] }
  | _ => none }
def RecordReadsWrongFalsely : Prop := recordReadsRow.holds Try.pinned (OpenSpec.ofChange recordReadsWrong)

/- THE SECOND FORM. 'bulk': how many values and letters a reading holds, each counted each time it is reached (what is shared counts as often as it is met; a slice's spare places count too). A statement '..UptoSaid' is the law's where the arguments, and the package variables that the reading takes, are together of bulk at most 1048576: NARROWER than '..Said'. Prove '..Said' where nothing that the law and all that it calls make is longer than what came in: it says more and counts as full. Else prove '..UptoSaid'. A law counts once. -/
mutual
def uptoBulk {H : Type} : DataW H → Nat
  | .lit (.string bytes) => bytes.length + 1
  | .lit _ => 1
  | .nil => 1
  | .ptr d => uptoBulk d + 1
  | .slice elems spare => uptoBulkAll elems + uptoBulkAll spare + 1
  | .agg parts => uptoBulkAll parts + 1
  | .iface _ d => uptoBulk d + 1
  | .map entries => uptoBulkEntries entries + 1
  | .held _ => 1
def uptoBulkAll {H : Type} : List (DataW H) → Nat
  | [] => 0
  | d :: r => uptoBulk d + uptoBulkAll r
def uptoBulkEntries {H : Type} : List (Lit × DataW H) → Nat
  | [] => 0
  | x :: r => uptoBulkEntry x + uptoBulkEntries r
def uptoBulkEntry {H : Type} : Lit × DataW H → Nat
  | (.string bytes, d) => bytes.length + uptoBulk d + 1
  | (_, d) => uptoBulk d + 1
 end
def uptoSmall : (H : Type) → List (DataW H) → Bool := fun _ ds => decide (uptoBulkAll ds ≤ 1048576)
def OpenSpec.upto (s : _root_.Go.ChangeSpec) : _root_.Go.OpenSpec := { _root_.Go.OpenSpec.ofChange s with cond := some uptoSmall }

/-- 'rootcauselaw24.RecordChecks', WHERE WHAT IT READS IS OF BULK AT MOST 1048576: true; the input reads as it did. -/
def recordChecksUptoRow : OpenClaim := { program := "ytkadjbpmnpcfhaa", sum := "6691735d11ce422f2db5050a29ebfe213b8a53501bfd467056a4d49c63457a60", func := "rootcause/rootcauselaw24.RecordChecks", spec := "recordChecks", apart := false, narrowed := true }
def RecordChecksUptoSaid : Prop := recordChecksUptoRow.holds Try.pinned (OpenSpec.upto recordChecksSpec)

/-- 'rootcauselaw24.RecordBytes', WHERE WHAT IT READS IS OF BULK AT MOST 1048576: true; the input reads as it did. -/
def recordBytesUptoRow : OpenClaim := { program := "ytkadjbpmnpcfhaa", sum := "6691735d11ce422f2db5050a29ebfe213b8a53501bfd467056a4d49c63457a60", func := "rootcause/rootcauselaw24.RecordBytes", spec := "recordBytes", apart := false, narrowed := true }
def RecordBytesUptoSaid : Prop := recordBytesUptoRow.holds Try.pinned (OpenSpec.upto recordBytesSpec)

/-- 'rootcauselaw24.RecordEquals', WHERE WHAT IT READS IS OF BULK AT MOST 1048576: true; the input reads as it did. -/
def recordEqualsUptoRow : OpenClaim := { program := "ytkadjbpmnpcfhaa", sum := "6691735d11ce422f2db5050a29ebfe213b8a53501bfd467056a4d49c63457a60", func := "rootcause/rootcauselaw24.RecordEquals", spec := "recordEquals", apart := false, narrowed := true }
def RecordEqualsUptoSaid : Prop := recordEqualsUptoRow.holds Try.pinned (OpenSpec.upto recordEqualsSpec)

/-- 'rootcauselaw24.RecordSpoilt', WHERE WHAT IT READS IS OF BULK AT MOST 1048576: true; the input reads as it did. -/
def recordSpoiltUptoRow : OpenClaim := { program := "ytkadjbpmnpcfhaa", sum := "6691735d11ce422f2db5050a29ebfe213b8a53501bfd467056a4d49c63457a60", func := "rootcause/rootcauselaw24.RecordSpoilt", spec := "recordSpoilt", unfollowed := true, recurses := true, apart := false, narrowed := true }
def RecordSpoiltUptoSaid : Prop := recordSpoiltUptoRow.holds Try.pinned (OpenSpec.upto recordSpoiltSpec)

/-- 'rootcauselaw24.RecordAlone', WHERE WHAT IT READS IS OF BULK AT MOST 1048576: true; the input reads as it did. -/
def recordAloneUptoRow : OpenClaim := { program := "ytkadjbpmnpcfhaa", sum := "6691735d11ce422f2db5050a29ebfe213b8a53501bfd467056a4d49c63457a60", func := "rootcause/rootcauselaw24.RecordAlone", spec := "recordAlone", unfollowed := true, recurses := true, apart := false, narrowed := true }
def RecordAloneUptoSaid : Prop := recordAloneUptoRow.holds Try.pinned (OpenSpec.upto recordAloneSpec)

/-- 'rootcauselaw24.RecordAny', WHERE WHAT IT READS IS OF BULK AT MOST 1048576: true; the input reads as it did. -/
def recordAnyUptoRow : OpenClaim := { program := "ytkadjbpmnpcfhaa", sum := "6691735d11ce422f2db5050a29ebfe213b8a53501bfd467056a4d49c63457a60", func := "rootcause/rootcauselaw24.RecordAny", spec := "recordAny", unfollowed := true, recurses := true, apart := false, narrowed := true }
def RecordAnyUptoSaid : Prop := recordAnyUptoRow.holds Try.pinned (OpenSpec.upto recordAnySpec)

/-- 'rootcauselaw27.BudgetClasses', WHERE WHAT IT READS IS OF BULK AT MOST 1048576: true; the input reads as it did. -/
def budgetClassesUptoRow : OpenClaim := { program := "ytkadjbpmnpcfhaa", sum := "6691735d11ce422f2db5050a29ebfe213b8a53501bfd467056a4d49c63457a60", func := "rootcause/rootcauselaw27.BudgetClasses", spec := "budgetClasses", named := ["math/bits.divideError", "math/bits.overflowError"], apart := false, narrowed := true }
def BudgetClassesUptoSaid : Prop := budgetClassesUptoRow.holds Try.pinned (OpenSpec.upto budgetClassesSpec)

/-- 'rootcauselaw27.BudgetSpreads', WHERE WHAT IT READS IS OF BULK AT MOST 1048576: true; the input reads as it did. -/
def budgetSpreadsUptoRow : OpenClaim := { program := "ytkadjbpmnpcfhaa", sum := "6691735d11ce422f2db5050a29ebfe213b8a53501bfd467056a4d49c63457a60", func := "rootcause/rootcauselaw27.BudgetSpreads", spec := "budgetSpreads", named := ["math/bits.divideError", "math/bits.overflowError"], apart := false, narrowed := true }
def BudgetSpreadsUptoSaid : Prop := budgetSpreadsUptoRow.holds Try.pinned (OpenSpec.upto budgetSpreadsSpec)

/-- 'rootcauselaw27.BudgetPlans', WHERE WHAT IT READS IS OF BULK AT MOST 1048576: true; the input reads as it did. -/
def budgetPlansUptoRow : OpenClaim := { program := "ytkadjbpmnpcfhaa", sum := "6691735d11ce422f2db5050a29ebfe213b8a53501bfd467056a4d49c63457a60", func := "rootcause/rootcauselaw27.BudgetPlans", spec := "budgetPlans", named := ["math/bits.divideError", "math/bits.overflowError"], apart := false, narrowed := true }
def BudgetPlansUptoSaid : Prop := budgetPlansUptoRow.holds Try.pinned (OpenSpec.upto budgetPlansSpec)

/-- 'rootcauselaw27.BudgetFits', WHERE WHAT IT READS IS OF BULK AT MOST 1048576: true; the input reads as it did. -/
def budgetFitsUptoRow : OpenClaim := { program := "ytkadjbpmnpcfhaa", sum := "6691735d11ce422f2db5050a29ebfe213b8a53501bfd467056a4d49c63457a60", func := "rootcause/rootcauselaw27.BudgetFits", spec := "budgetFits", named := ["math/bits.divideError", "math/bits.overflowError"], apart := false, narrowed := true }
def BudgetFitsUptoSaid : Prop := budgetFitsUptoRow.holds Try.pinned (OpenSpec.upto budgetFitsSpec)

/-- 'rootcauselaw27.BudgetFirst', WHERE WHAT IT READS IS OF BULK AT MOST 1048576: true; the input reads as it did. -/
def budgetFirstUptoRow : OpenClaim := { program := "ytkadjbpmnpcfhaa", sum := "6691735d11ce422f2db5050a29ebfe213b8a53501bfd467056a4d49c63457a60", func := "rootcause/rootcauselaw27.BudgetFirst", spec := "budgetFirst", named := ["math/bits.divideError", "math/bits.overflowError"], apart := false, narrowed := true }
def BudgetFirstUptoSaid : Prop := budgetFirstUptoRow.holds Try.pinned (OpenSpec.upto budgetFirstSpec)

/-- 'rootcauselaw27.BudgetGrows', WHERE WHAT IT READS IS OF BULK AT MOST 1048576: true; the input reads as it did. -/
def budgetGrowsUptoRow : OpenClaim := { program := "ytkadjbpmnpcfhaa", sum := "6691735d11ce422f2db5050a29ebfe213b8a53501bfd467056a4d49c63457a60", func := "rootcause/rootcauselaw27.BudgetGrows", spec := "budgetGrows", named := ["math/bits.divideError", "math/bits.overflowError"], apart := false, narrowed := true }
def BudgetGrowsUptoSaid : Prop := budgetGrowsUptoRow.holds Try.pinned (OpenSpec.upto budgetGrowsSpec)

/-- 'rootcauselaw27.BudgetEnds', WHERE WHAT IT READS IS OF BULK AT MOST 1048576: true; the input reads as it did. -/
def budgetEndsUptoRow : OpenClaim := { program := "ytkadjbpmnpcfhaa", sum := "6691735d11ce422f2db5050a29ebfe213b8a53501bfd467056a4d49c63457a60", func := "rootcause/rootcauselaw27.BudgetEnds", spec := "budgetEnds", named := ["math/bits.divideError", "math/bits.overflowError"], apart := false, narrowed := true }
def BudgetEndsUptoSaid : Prop := budgetEndsUptoRow.holds Try.pinned (OpenSpec.upto budgetEndsSpec)

/-- 'rootcauselaw27.BudgetEven', WHERE WHAT IT READS IS OF BULK AT MOST 1048576: true; the input reads as it did. -/
def budgetEvenUptoRow : OpenClaim := { program := "ytkadjbpmnpcfhaa", sum := "6691735d11ce422f2db5050a29ebfe213b8a53501bfd467056a4d49c63457a60", func := "rootcause/rootcauselaw27.BudgetEven", spec := "budgetEven", named := ["math/bits.divideError", "math/bits.overflowError"], apart := false, narrowed := true }
def BudgetEvenUptoSaid : Prop := budgetEvenUptoRow.holds Try.pinned (OpenSpec.upto budgetEvenSpec)

/-- 'rootcauselaw24.RecordReads', WHERE WHAT IT READS IS OF BULK AT MOST 1048576: true; the input reads as it did. -/
def recordReadsUptoRow : OpenClaim := { program := "ytkadjbpmnpcfhaa", sum := "6691735d11ce422f2db5050a29ebfe213b8a53501bfd467056a4d49c63457a60", func := "rootcause/rootcauselaw24.RecordReads", spec := "recordReads", unfollowed := true, recurses := true, apart := false, narrowed := true }
def RecordReadsUptoSaid : Prop := recordReadsUptoRow.holds Try.pinned (OpenSpec.upto recordReadsSpec)

end Rows
end Go.Proofs.Ytkadjbpmnpcfhaa
