/-
  No cell of these rows narrows 'for every input' (looked for: loops, veiled, ifaces, maps, wideKeys, modest, calm, conditions, laid).
  DERIVED. THE GIVEN ROWS OF THIS SEAT. 11 by the template 'for every input the law returns true; each argument reads behind the call as it read before'; 0 by the template 'total and deterministic' (their statements: YtepkcbalmjnhpaaGreatTotals.lean).
  GIVEN WITH THE SEED: the statements are not yours to turn. If you find one false, say at which input.
  Laid BY PROGRAM, IN A SANDBOX (cutbox-rows.mjs): the forced cells as the released guide's own fill.sh prints them over the translation a4f2f107e9523763… (all of the seat's roots in one cut). By AI agents, Wed Nov 11 2026. No macro, syntax, notation, axiom, sorry.
-/
import Derived.Test.YtepkcbalmjnhpaaGreatChecked
import GoSem.Claim
import GoSem.ClaimJoined
import GoSem.ClaimMapViews
import Derived.JoinedTies
import Derived.KernelRfl
namespace Go.Proofs.YtepkcbalmjnhpaaGreat
/- THE CELL 'sum', in the pinned program and in every row, IS THE sha256 OF THE DUMP (.gsa) THAT YtepkcbalmjnhpaaGreatProg.lean LOADS. Nothing in Lean hashes anything: it is a label: what it is worth is what the hold of that sum in a sandbox is worth. -/
noncomputable def Tryz.pinned : Pinned := { name := "ytepkcbalmjnhpaagreat", sum := "a4f2f107e9523763fbb45adbdd9b3ae96b9ab533f8e39d71314c1d5a369d753c", checked := Tryz.checked }
namespace Rows
def none {H : Type} : Left H := { results := [], args := [] }

/-- 'rootcauselaw30.CollectAdds': WHATEVER THE INPUT: true; the input reads as it did. -/
def collectAddsSpec : ChangeSpec := { name := "collectAdds", fn := fun _ => fun
  | [d1, d2] => { results := [.lit (.bool true)], args := [d1, d2] }
  | _ => none }
def collectAddsRow : OpenClaim := { program := "ytepkcbalmjnhpaagreat", sum := "a4f2f107e9523763fbb45adbdd9b3ae96b9ab533f8e39d71314c1d5a369d753c", func := "rootcause/rootcauselaw30.CollectAdds", spec := "collectAdds", unfollowed := true, recurses := true, plainKeys := false, apart := false }
def CollectAddsSaid : Prop := collectAddsRow.holds Tryz.pinned (OpenSpec.ofChange collectAddsSpec)

/-- ITS FALSE NEIGHBOUR: 'it returns false'. Refute it at one input. -/
def collectAddsWrong : ChangeSpec := { name := "collectAdds", fn := fun _ => fun
  | [d1, d2] => { results := [.lit (.bool false)], args := [d1, d2] }
  | _ => none }
def CollectAddsWrongFalsely : Prop := collectAddsRow.holds Tryz.pinned (OpenSpec.ofChange collectAddsWrong)

/-- 'rootcauselaw30.CollectDamaged': WHATEVER THE INPUT: true; the input reads as it did. -/
def collectDamagedSpec : ChangeSpec := { name := "collectDamaged", fn := fun _ => fun
  | [d1, d2, d3] => { results := [.lit (.bool true)], args := [d1, d2, d3] }
  | _ => none }
def collectDamagedRow : OpenClaim := { program := "ytepkcbalmjnhpaagreat", sum := "a4f2f107e9523763fbb45adbdd9b3ae96b9ab533f8e39d71314c1d5a369d753c", func := "rootcause/rootcauselaw30.CollectDamaged", spec := "collectDamaged", unfollowed := true, recurses := true, plainKeys := false, apart := false }
def CollectDamagedSaid : Prop := collectDamagedRow.holds Tryz.pinned (OpenSpec.ofChange collectDamagedSpec)

/-- ITS FALSE NEIGHBOUR: 'it returns false'. Refute it at one input. -/
def collectDamagedWrong : ChangeSpec := { name := "collectDamaged", fn := fun _ => fun
  | [d1, d2, d3] => { results := [.lit (.bool false)], args := [d1, d2, d3] }
  | _ => none }
def CollectDamagedWrongFalsely : Prop := collectDamagedRow.holds Tryz.pinned (OpenSpec.ofChange collectDamagedWrong)

/-- 'rootcauselaw30.CollectMerges': WHATEVER THE INPUT: true; the input reads as it did. -/
def collectMergesSpec : ChangeSpec := { name := "collectMerges", fn := fun _ => fun
  | [d1, d2, d3] => { results := [.lit (.bool true)], args := [d1, d2, d3] }
  | _ => none }
def collectMergesRow : OpenClaim := { program := "ytepkcbalmjnhpaagreat", sum := "a4f2f107e9523763fbb45adbdd9b3ae96b9ab533f8e39d71314c1d5a369d753c", func := "rootcause/rootcauselaw30.CollectMerges", spec := "collectMerges", unfollowed := true, recurses := true, plainKeys := false, apart := false }
def CollectMergesSaid : Prop := collectMergesRow.holds Tryz.pinned (OpenSpec.ofChange collectMergesSpec)

/-- ITS FALSE NEIGHBOUR: 'it returns false'. Refute it at one input. -/
def collectMergesWrong : ChangeSpec := { name := "collectMerges", fn := fun _ => fun
  | [d1, d2, d3] => { results := [.lit (.bool false)], args := [d1, d2, d3] }
  | _ => none }
def CollectMergesWrongFalsely : Prop := collectMergesRow.holds Tryz.pinned (OpenSpec.ofChange collectMergesWrong)

/-- 'rootcauselaw30.CollectOrder': WHATEVER THE INPUT: true; the input reads as it did. -/
def collectOrderSpec : ChangeSpec := { name := "collectOrder", fn := fun _ => fun
  | [d1, d2, d3] => { results := [.lit (.bool true)], args := [d1, d2, d3] }
  | _ => none }
def collectOrderRow : OpenClaim := { program := "ytepkcbalmjnhpaagreat", sum := "a4f2f107e9523763fbb45adbdd9b3ae96b9ab533f8e39d71314c1d5a369d753c", func := "rootcause/rootcauselaw30.CollectOrder", spec := "collectOrder", unfollowed := true, recurses := true, plainKeys := false, apart := false }
def CollectOrderSaid : Prop := collectOrderRow.holds Tryz.pinned (OpenSpec.ofChange collectOrderSpec)

/-- ITS FALSE NEIGHBOUR: 'it returns false'. Refute it at one input. -/
def collectOrderWrong : ChangeSpec := { name := "collectOrder", fn := fun _ => fun
  | [d1, d2, d3] => { results := [.lit (.bool false)], args := [d1, d2, d3] }
  | _ => none }
def CollectOrderWrongFalsely : Prop := collectOrderRow.holds Tryz.pinned (OpenSpec.ofChange collectOrderWrong)

/-- 'rootcauselaw30.CollectKeeps': WHATEVER THE INPUT: true; the input reads as it did. -/
def collectKeepsSpec : ChangeSpec := { name := "collectKeeps", fn := fun _ => fun
  | [d1, d2, d3] => { results := [.lit (.bool true)], args := [d1, d2, d3] }
  | _ => none }
def collectKeepsRow : OpenClaim := { program := "ytepkcbalmjnhpaagreat", sum := "a4f2f107e9523763fbb45adbdd9b3ae96b9ab533f8e39d71314c1d5a369d753c", func := "rootcause/rootcauselaw30.CollectKeeps", spec := "collectKeeps", unfollowed := true, recurses := true, plainKeys := false, apart := false }
def CollectKeepsSaid : Prop := collectKeepsRow.holds Tryz.pinned (OpenSpec.ofChange collectKeepsSpec)

/-- ITS FALSE NEIGHBOUR: 'it returns false'. Refute it at one input. -/
def collectKeepsWrong : ChangeSpec := { name := "collectKeeps", fn := fun _ => fun
  | [d1, d2, d3] => { results := [.lit (.bool false)], args := [d1, d2, d3] }
  | _ => none }
def CollectKeepsWrongFalsely : Prop := collectKeepsRow.holds Tryz.pinned (OpenSpec.ofChange collectKeepsWrong)

/-- 'rootcauselaw30.CollectLaws': WHATEVER THE INPUT: true; the input reads as it did. -/
def collectLawsSpec : ChangeSpec := { name := "collectLaws", fn := fun _ => fun
  | [d1, d2, d3] => { results := [.lit (.bool true)], args := [d1, d2, d3] }
  | _ => none }
def collectLawsRow : OpenClaim := { program := "ytepkcbalmjnhpaagreat", sum := "a4f2f107e9523763fbb45adbdd9b3ae96b9ab533f8e39d71314c1d5a369d753c", func := "rootcause/rootcauselaw30.CollectLaws", spec := "collectLaws", unfollowed := true, recurses := true, plainKeys := false, apart := false }
def CollectLawsSaid : Prop := collectLawsRow.holds Tryz.pinned (OpenSpec.ofChange collectLawsSpec)

/-- ITS FALSE NEIGHBOUR: 'it returns false'. Refute it at one input. -/
def collectLawsWrong : ChangeSpec := { name := "collectLaws", fn := fun _ => fun
  | [d1, d2, d3] => { results := [.lit (.bool false)], args := [d1, d2, d3] }
  | _ => none }
def CollectLawsWrongFalsely : Prop := collectLawsRow.holds Tryz.pinned (OpenSpec.ofChange collectLawsWrong)

/-- 'rootcauselaw32.GapHoles': WHATEVER THE INPUT: true; the input reads as it did. -/
def gapHolesSpec : ChangeSpec := { name := "gapHoles", fn := fun _ => fun
  | [d1, d2, d3] => { results := [.lit (.bool true)], args := [d1, d2, d3] }
  | _ => none }
def gapHolesRow : OpenClaim := { program := "ytepkcbalmjnhpaagreat", sum := "a4f2f107e9523763fbb45adbdd9b3ae96b9ab533f8e39d71314c1d5a369d753c", func := "rootcause/rootcauselaw32.GapHoles", spec := "gapHoles", unfollowed := true, recurses := true, plainKeys := false, apart := false }
def GapHolesSaid : Prop := gapHolesRow.holds Tryz.pinned (OpenSpec.ofChange gapHolesSpec)

/-- ITS FALSE NEIGHBOUR: 'it returns false'. Refute it at one input. -/
def gapHolesWrong : ChangeSpec := { name := "gapHoles", fn := fun _ => fun
  | [d1, d2, d3] => { results := [.lit (.bool false)], args := [d1, d2, d3] }
  | _ => none }
def GapHolesWrongFalsely : Prop := gapHolesRow.holds Tryz.pinned (OpenSpec.ofChange gapHolesWrong)

/-- 'rootcauselaw30.CollectErrs': WHATEVER THE INPUT: true; the input reads as it did. -/
def collectErrsSpec : ChangeSpec := { name := "collectErrs", fn := fun _ => fun
  | [d1, d2, d3] => { results := [.lit (.bool true)], args := [d1, d2, d3] }
  | _ => none }
def collectErrsRow : OpenClaim := { program := "ytepkcbalmjnhpaagreat", sum := "a4f2f107e9523763fbb45adbdd9b3ae96b9ab533f8e39d71314c1d5a369d753c", func := "rootcause/rootcauselaw30.CollectErrs", spec := "collectErrs", unfollowed := true, recurses := true, plainKeys := false, apart := false }
def CollectErrsSaid : Prop := collectErrsRow.holds Tryz.pinned (OpenSpec.ofChange collectErrsSpec)

/-- ITS FALSE NEIGHBOUR: 'it returns false'. Refute it at one input. -/
def collectErrsWrong : ChangeSpec := { name := "collectErrs", fn := fun _ => fun
  | [d1, d2, d3] => { results := [.lit (.bool false)], args := [d1, d2, d3] }
  | _ => none }
def CollectErrsWrongFalsely : Prop := collectErrsRow.holds Tryz.pinned (OpenSpec.ofChange collectErrsWrong)

/-- 'rootcauselaw30.CollectReads': WHATEVER THE INPUT: true; the input reads as it did. -/
def collectReadsSpec : ChangeSpec := { name := "collectReads", fn := fun _ => fun
  | [d1, d2, d3] => { results := [.lit (.bool true)], args := [d1, d2, d3] }
  | _ => none }
def collectReadsRow : OpenClaim := { program := "ytepkcbalmjnhpaagreat", sum := "a4f2f107e9523763fbb45adbdd9b3ae96b9ab533f8e39d71314c1d5a369d753c", func := "rootcause/rootcauselaw30.CollectReads", spec := "collectReads", unfollowed := true, recurses := true, plainKeys := false, apart := false }
def CollectReadsSaid : Prop := collectReadsRow.holds Tryz.pinned (OpenSpec.ofChange collectReadsSpec)

/-- ITS FALSE NEIGHBOUR: 'it returns false'. Refute it at one input. -/
def collectReadsWrong : ChangeSpec := { name := "collectReads", fn := fun _ => fun
  | [d1, d2, d3] => { results := [.lit (.bool false)], args := [d1, d2, d3] }
  | _ => none }
def CollectReadsWrongFalsely : Prop := collectReadsRow.holds Tryz.pinned (OpenSpec.ofChange collectReadsWrong)

/-- 'rootcauselaw30.CollectBytes': WHATEVER THE INPUT: true; the input reads as it did. -/
def collectBytesSpec : ChangeSpec := { name := "collectBytes", fn := fun _ => fun
  | [d1, d2, d3] => { results := [.lit (.bool true)], args := [d1, d2, d3] }
  | _ => none }
def collectBytesRow : OpenClaim := { program := "ytepkcbalmjnhpaagreat", sum := "a4f2f107e9523763fbb45adbdd9b3ae96b9ab533f8e39d71314c1d5a369d753c", func := "rootcause/rootcauselaw30.CollectBytes", spec := "collectBytes", unfollowed := true, recurses := true, plainKeys := false, apart := false }
def CollectBytesSaid : Prop := collectBytesRow.holds Tryz.pinned (OpenSpec.ofChange collectBytesSpec)

/-- ITS FALSE NEIGHBOUR: 'it returns false'. Refute it at one input. -/
def collectBytesWrong : ChangeSpec := { name := "collectBytes", fn := fun _ => fun
  | [d1, d2, d3] => { results := [.lit (.bool false)], args := [d1, d2, d3] }
  | _ => none }
def CollectBytesWrongFalsely : Prop := collectBytesRow.holds Tryz.pinned (OpenSpec.ofChange collectBytesWrong)

/-- 'rootcauselaw31.GraphNil': WHATEVER THE INPUT: true; the input reads as it did. -/
def graphNilSpec : ChangeSpec := { name := "graphNil", fn := fun _ => fun
  | [d1, d2, d3] => { results := [.lit (.bool true)], args := [d1, d2, d3] }
  | _ => none }
def graphNilRow : OpenClaim := { program := "ytepkcbalmjnhpaagreat", sum := "a4f2f107e9523763fbb45adbdd9b3ae96b9ab533f8e39d71314c1d5a369d753c", func := "rootcause/rootcauselaw31.GraphNil", spec := "graphNil", unfollowed := true, recurses := true, named := ["math/bits.divideError", "math/bits.overflowError"], plainKeys := false, apart := false }
def GraphNilSaid : Prop := graphNilRow.holds Tryz.pinned (OpenSpec.ofChange graphNilSpec)

/-- ITS FALSE NEIGHBOUR: 'it returns false'. Refute it at one input. -/
def graphNilWrong : ChangeSpec := { name := "graphNil", fn := fun _ => fun
  | [d1, d2, d3] => { results := [.lit (.bool false)], args := [d1, d2, d3] }
  | _ => none }
def GraphNilWrongFalsely : Prop := graphNilRow.holds Tryz.pinned (OpenSpec.ofChange graphNilWrong)

/- THE SECOND FORM. 'bulk': how many values and letters a reading holds, each counted each time it is reached (what is shared counts as often as it is met; a slice's spare places count too). A statement '..UptoSaid' is the law's where the arguments, and the package variables that the reading takes, are together of bulk at most 1048576: NARROWER than '..Said'. Prove '..Said' where nothing that the law and all that it calls make is longer than what came in: it says more and counts as full. Else prove '..UptoSaid'. A law counts once. -/
mutual
def uptoBulk {H : Type} : DataW H → Nat
  | .lit (.string bytes) => bytes.length + 1
  | .lit _ => 1
  | .nil => 1
  | .ptr d => uptoBulk d + 1
  | .slice elems spare => uptoBulkAll elems + uptoBulkAll spare + 1
  | .agg parts => uptoBulkAll parts + 1
  | .iface _ d => uptoBulk d + 1
  | .map entries => uptoBulkEntries entries + 1
  | .held _ => 1
def uptoBulkAll {H : Type} : List (DataW H) → Nat
  | [] => 0
  | d :: r => uptoBulk d + uptoBulkAll r
def uptoBulkEntries {H : Type} : List (Lit × DataW H) → Nat
  | [] => 0
  | x :: r => uptoBulkEntry x + uptoBulkEntries r
def uptoBulkEntry {H : Type} : Lit × DataW H → Nat
  | (.string bytes, d) => bytes.length + uptoBulk d + 1
  | (_, d) => uptoBulk d + 1
 end
def uptoSmall : (H : Type) → List (DataW H) → Bool := fun _ ds => decide (uptoBulkAll ds ≤ 1048576)
def OpenSpec.upto (s : _root_.Go.ChangeSpec) : _root_.Go.OpenSpec := { _root_.Go.OpenSpec.ofChange s with cond := some uptoSmall }

/-- 'rootcauselaw30.CollectAdds', WHERE WHAT IT READS IS OF BULK AT MOST 1048576: true; the input reads as it did. -/
def collectAddsUptoRow : OpenClaim := { program := "ytepkcbalmjnhpaagreat", sum := "a4f2f107e9523763fbb45adbdd9b3ae96b9ab533f8e39d71314c1d5a369d753c", func := "rootcause/rootcauselaw30.CollectAdds", spec := "collectAdds", unfollowed := true, recurses := true, plainKeys := false, apart := false, narrowed := true }
def CollectAddsUptoSaid : Prop := collectAddsUptoRow.holds Tryz.pinned (OpenSpec.upto collectAddsSpec)

/-- 'rootcauselaw30.CollectDamaged', WHERE WHAT IT READS IS OF BULK AT MOST 1048576: true; the input reads as it did. -/
def collectDamagedUptoRow : OpenClaim := { program := "ytepkcbalmjnhpaagreat", sum := "a4f2f107e9523763fbb45adbdd9b3ae96b9ab533f8e39d71314c1d5a369d753c", func := "rootcause/rootcauselaw30.CollectDamaged", spec := "collectDamaged", unfollowed := true, recurses := true, plainKeys := false, apart := false, narrowed := true }
def CollectDamagedUptoSaid : Prop := collectDamagedUptoRow.holds Tryz.pinned (OpenSpec.upto collectDamagedSpec)

/-- 'rootcauselaw30.CollectMerges', WHERE WHAT IT READS IS OF BULK AT MOST 1048576: true; the input reads as it did. -/
def collectMergesUptoRow : OpenClaim := { program := "ytepkcbalmjnhpaagreat", sum := "a4f2f107e9523763fbb45adbdd9b3ae96b9ab533f8e39d71314c1d5a369d753c", func := "rootcause/rootcauselaw30.CollectMerges", spec := "collectMerges", unfollowed := true, recurses := true, plainKeys := false, apart := false, narrowed := true }
def CollectMergesUptoSaid : Prop := collectMergesUptoRow.holds Tryz.pinned (OpenSpec.upto collectMergesSpec)

/-- 'rootcauselaw30.CollectOrder', WHERE WHAT IT READS IS OF BULK AT MOST 1048576: true; the input reads as it did. -/
def collectOrderUptoRow : OpenClaim := { program := "ytepkcbalmjnhpaagreat", sum := "a4f2f107e9523763fbb45adbdd9b3ae96b9ab533f8e39d71314c1d5a369d753c", func := "rootcause/rootcauselaw30.CollectOrder", spec := "collectOrder", unfollowed := true, recurses := true, plainKeys := false, apart := false, narrowed := true }
def CollectOrderUptoSaid : Prop := collectOrderUptoRow.holds Tryz.pinned (OpenSpec.upto collectOrderSpec)

/-- 'rootcauselaw30.CollectKeeps', WHERE WHAT IT READS IS OF BULK AT MOST 1048576: true; the input reads as it did. -/
def collectKeepsUptoRow : OpenClaim := { program := "ytepkcbalmjnhpaagreat", sum := "a4f2f107e9523763fbb45adbdd9b3ae96b9ab533f8e39d71314c1d5a369d753c", func := "rootcause/rootcauselaw30.CollectKeeps", spec := "collectKeeps", unfollowed := true, recurses := true, plainKeys := false, apart := false, narrowed := true }
def CollectKeepsUptoSaid : Prop := collectKeepsUptoRow.holds Tryz.pinned (OpenSpec.upto collectKeepsSpec)

/-- 'rootcauselaw30.CollectLaws', WHERE WHAT IT READS IS OF BULK AT MOST 1048576: true; the input reads as it did. -/
def collectLawsUptoRow : OpenClaim := { program := "ytepkcbalmjnhpaagreat", sum := "a4f2f107e9523763fbb45adbdd9b3ae96b9ab533f8e39d71314c1d5a369d753c", func := "rootcause/rootcauselaw30.CollectLaws", spec := "collectLaws", unfollowed := true, recurses := true, plainKeys := false, apart := false, narrowed := true }
def CollectLawsUptoSaid : Prop := collectLawsUptoRow.holds Tryz.pinned (OpenSpec.upto collectLawsSpec)

/-- 'rootcauselaw32.GapHoles', WHERE WHAT IT READS IS OF BULK AT MOST 1048576: true; the input reads as it did. -/
def gapHolesUptoRow : OpenClaim := { program := "ytepkcbalmjnhpaagreat", sum := "a4f2f107e9523763fbb45adbdd9b3ae96b9ab533f8e39d71314c1d5a369d753c", func := "rootcause/rootcauselaw32.GapHoles", spec := "gapHoles", unfollowed := true, recurses := true, plainKeys := false, apart := false, narrowed := true }
def GapHolesUptoSaid : Prop := gapHolesUptoRow.holds Tryz.pinned (OpenSpec.upto gapHolesSpec)

/-- 'rootcauselaw30.CollectErrs', WHERE WHAT IT READS IS OF BULK AT MOST 1048576: true; the input reads as it did. -/
def collectErrsUptoRow : OpenClaim := { program := "ytepkcbalmjnhpaagreat", sum := "a4f2f107e9523763fbb45adbdd9b3ae96b9ab533f8e39d71314c1d5a369d753c", func := "rootcause/rootcauselaw30.CollectErrs", spec := "collectErrs", unfollowed := true, recurses := true, plainKeys := false, apart := false, narrowed := true }
def CollectErrsUptoSaid : Prop := collectErrsUptoRow.holds Tryz.pinned (OpenSpec.upto collectErrsSpec)

/-- 'rootcauselaw30.CollectReads', WHERE WHAT IT READS IS OF BULK AT MOST 1048576: true; the input reads as it did. -/
def collectReadsUptoRow : OpenClaim := { program := "ytepkcbalmjnhpaagreat", sum := "a4f2f107e9523763fbb45adbdd9b3ae96b9ab533f8e39d71314c1d5a369d753c", func := "rootcause/rootcauselaw30.CollectReads", spec := "collectReads", unfollowed := true, recurses := true, plainKeys := false, apart := false, narrowed := true }
def CollectReadsUptoSaid : Prop := collectReadsUptoRow.holds Tryz.pinned (OpenSpec.upto collectReadsSpec)

/-- 'rootcauselaw30.CollectBytes', WHERE WHAT IT READS IS OF BULK AT MOST 1048576: true; the input reads as it did. -/
def collectBytesUptoRow : OpenClaim := { program := "ytepkcbalmjnhpaagreat", sum := "a4f2f107e9523763fbb45adbdd9b3ae96b9ab533f8e39d71314c1d5a369d753c", func := "rootcause/rootcauselaw30.CollectBytes", spec := "collectBytes", unfollowed := true, recurses := true, plainKeys := false, apart := false, narrowed := true }
def CollectBytesUptoSaid : Prop := collectBytesUptoRow.holds Tryz.pinned (OpenSpec.upto collectBytesSpec)

/-- 'rootcauselaw31.GraphNil', WHERE WHAT IT READS IS OF BULK AT MOST 1048576: true; the input reads as it did. -/
def graphNilUptoRow : OpenClaim := { program := "ytepkcbalmjnhpaagreat", sum := "a4f2f107e9523763fbb45adbdd9b3ae96b9ab533f8e39d71314c1d5a369d753c", func := "rootcause/rootcauselaw31.GraphNil", spec := "graphNil", unfollowed := true, recurses := true, named := ["math/bits.divideError", "math/bits.overflowError"], plainKeys := false, apart := false, narrowed := true }
def GraphNilUptoSaid : Prop := graphNilUptoRow.holds Tryz.pinned (OpenSpec.upto graphNilSpec)

end Rows
end Go.Proofs.YtepkcbalmjnhpaaGreat
