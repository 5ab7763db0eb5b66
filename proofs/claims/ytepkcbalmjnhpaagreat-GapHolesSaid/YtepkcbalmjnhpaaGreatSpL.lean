/-
  The laying of a function of the library over this program, written out.
-/
import Derived.Test.YtepkcbalmjnhpaaGreatProg
import Derived.Shelf.SlSortCmp.NoneTotal
set_option maxRecDepth 100000
set_option maxHeartbeats 2000000
set_option linter.unusedVariables false
namespace Go.Proofs
open Go.Shelf Go.RowKit Go.Lib Go.Sort
def Tryz.sortSpan_ren : Ren := { f := fun x => match x with | 6 => 159 | 15 => 143 | 14 => 184 | 28 => 178 | 29 => 179 | 20 => 207 | 21 => 208 | 22 => 209 | 23 => 210 | 24 => 211 | 25 => 212 | 26 => 213 | 27 => 214 | 46 => 221 | 47 => 201 | 48 => 202 | 49 => 222 | 50 => 223 | 57 => 228 | n => n, t := fun x => match x with | 22 => 135 | 24 => 146 | 25 => 249 | 3 => 3 | 39 => 98 | 0 => 0 | 53 => 199 | 55 => 42 | 4 => 4 | 46 => 268 | 45 => 267 | 50 => 188 | 5 => 5 | 9 => 9 | 66 => 299 | 70 => 302 | 76 => 313 | 77 => 289 | n => n, g := fun n => n }
theorem Tryz.sortSpan : SlLaysF0.n6 Tryz.prog Tryz.sortSpan_ren where
  mixed := by kernel_rfl
  f6 := Exists.intro "slices.SortFunc[[]rootcause/collect.span,rootcause/collect.span]" ⟨by decide, Eq.trans Tryz.func159 (congrArg some (by kernel_rfl))⟩
  f14 := Exists.intro "slices.pdqsortCmpFunc[rootcause/collect.span]" ⟨by decide, Eq.trans Tryz.func184 (congrArg some (by kernel_rfl))⟩
  f15 := Eq.trans Tryz.func143 (congrArg some (by kernel_rfl))
  f20 := Exists.intro "slices.insertionSortCmpFunc[rootcause/collect.span]" ⟨by decide, Eq.trans Tryz.func207 (congrArg some (by kernel_rfl))⟩
  f21 := Exists.intro "slices.heapSortCmpFunc[rootcause/collect.span]" ⟨by decide, Eq.trans Tryz.func208 (congrArg some (by kernel_rfl))⟩
  f22 := Exists.intro "slices.breakPatternsCmpFunc[rootcause/collect.span]" ⟨by decide, Eq.trans Tryz.func209 (congrArg some (by kernel_rfl))⟩
  f23 := Exists.intro "slices.choosePivotCmpFunc[rootcause/collect.span]" ⟨by decide, Eq.trans Tryz.func210 (congrArg some (by kernel_rfl))⟩
  f24 := Exists.intro "slices.reverseRangeCmpFunc[rootcause/collect.span]" ⟨by decide, Eq.trans Tryz.func211 (congrArg some (by kernel_rfl))⟩
  f25 := Exists.intro "slices.partialInsertionSortCmpFunc[rootcause/collect.span]" ⟨by decide, Eq.trans Tryz.func212 (congrArg some (by kernel_rfl))⟩
  f26 := Exists.intro "slices.partitionEqualCmpFunc[rootcause/collect.span]" ⟨by decide, Eq.trans Tryz.func213 (congrArg some (by kernel_rfl))⟩
  f27 := Exists.intro "slices.partitionCmpFunc[rootcause/collect.span]" ⟨by decide, Eq.trans Tryz.func214 (congrArg some (by kernel_rfl))⟩
  f28 := Eq.trans Tryz.func178 (congrArg some (by kernel_rfl))
  f29 := Eq.trans Tryz.func179 (congrArg some (by kernel_rfl))
  f46 := Exists.intro "slices.siftDownCmpFunc[rootcause/collect.span]" ⟨by decide, Eq.trans Tryz.func221 (congrArg some (by kernel_rfl))⟩
  f47 := Eq.trans Tryz.func201 (congrArg some (by kernel_rfl))
  f48 := Eq.trans Tryz.func202 (congrArg some (by kernel_rfl))
  f49 := Exists.intro "slices.medianAdjacentCmpFunc[rootcause/collect.span]" ⟨by decide, Eq.trans Tryz.func222 (congrArg some (by kernel_rfl))⟩
  f50 := Exists.intro "slices.medianCmpFunc[rootcause/collect.span]" ⟨by decide, Eq.trans Tryz.func223 (congrArg some (by kernel_rfl))⟩
  f57 := Exists.intro "slices.order2CmpFunc[rootcause/collect.span]" ⟨by decide, Eq.trans Tryz.func228 (congrArg some (by kernel_rfl))⟩
  t0 := Tryz.underlying0
  a0 := Tryz.isAgg0
  z0 := Tryz.sizeOf0
  v0 := Tryz.zeroValue0
  t3 := Tryz.underlying3
  a3 := Tryz.isAgg3
  z3 := Tryz.sizeOf3
  v3 := Tryz.zeroValue3
  t4 := Tryz.underlying4
  a4 := Tryz.isAgg4
  z4 := Tryz.sizeOf4
  v4 := Tryz.zeroValue4
  t5 := Tryz.underlying5
  a5 := Tryz.isAgg5
  z5 := Tryz.sizeOf5
  v5 := Tryz.zeroValue5
  t9 := Tryz.underlying9
  a9 := Tryz.isAgg9
  z9 := Tryz.sizeOf9
  v9 := Tryz.zeroValue9
  t22 := Tryz.underlying135
  a22 := Tryz.isAgg135
  z22 := Tryz.sizeOf135
  v22 := Tryz.zeroValue135
  t25 := Tryz.underlying249
  a25 := Tryz.isAgg249
  z25 := Tryz.sizeOf249
  v25 := Tryz.zeroValue249
  t39 := Tryz.underlying98
  a39 := Tryz.isAgg98
  z39 := Tryz.sizeOf98
  v39 := Tryz.zeroValue98
  t45 := Tryz.underlying267
  a45 := Tryz.isAgg267
  z45 := Tryz.sizeOf267
  v45 := Tryz.zeroValue267
  t46 := Tryz.underlying268
  a46 := Tryz.isAgg268
  z46 := Tryz.sizeOf268
  v46 := Tryz.zeroValue268
  t50 := Tryz.underlying188
  a50 := Tryz.isAgg188
  z50 := Tryz.sizeOf188
  v50 := Tryz.zeroValue188
  t53 := Tryz.underlying199
  a53 := Tryz.isAgg199
  z53 := Tryz.sizeOf199
  v53 := Tryz.zeroValue199
  t55 := Tryz.underlying42
  a55 := Tryz.isAgg42
  z55 := Tryz.sizeOf42
  v55 := Tryz.zeroValue42
  t66 := Tryz.underlying299
  a66 := Tryz.isAgg299
  z66 := Tryz.sizeOf299
  v66 := Tryz.zeroValue299
  t70 := Tryz.underlying302
  a70 := Tryz.isAgg302
  z70 := Tryz.sizeOf302
  v70 := Tryz.zeroValue302
  t76 := Tryz.underlying313
  a76 := Tryz.isAgg313
  z76 := Tryz.sizeOf313
  v76 := Tryz.zeroValue313
  t77 := Tryz.underlying289
  a77 := Tryz.isAgg289
  z77 := Tryz.sizeOf289
  v77 := Tryz.zeroValue289
end Go.Proofs
