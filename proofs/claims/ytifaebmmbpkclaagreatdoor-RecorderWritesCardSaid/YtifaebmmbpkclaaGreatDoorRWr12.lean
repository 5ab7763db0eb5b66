/-
  What the claim leans on, part 12.
-/
import Derived.Test.YtifaebmmbpkclaaGreatDoorRWr11
import Derived.Shelf.Strings.OnBuilder
set_option maxRecDepth 100000
set_option maxHeartbeats 2000000
set_option linter.unusedVariables false
namespace Go.Proofs
open Go.Shelf Go.RowKit
def Tryz.laysJn_ren : Ren:={ f:=fun x=>match x with | 156=>40 | 165=>63 | 166=>64 | 169=>65 | 240=>84 | 241=>85 | 276=>101 | 277=>102 | n=>n,t:=fun x=>match x with | 31=>99 | 9=>9 | 3=>3 | 4=>4 | 0=>0 | 20=>20 | 72=>138 | 76=>142 | 70=>136 | 37=>37 | 75=>141 | 127=>163 | 164=>183 | 5=>5 | 80=>59 | n=>n,g:=fun n=>n }
theorem Tryz.laysJn : Lays.n156 Tryz.prog Tryz.laysJn_ren where
 mixed:=by kernel_rfl
 f156:=Eq.trans Tryz.func40 (congrArg some (by kernel_rfl))
 f165:=Eq.trans Tryz.func63 (congrArg some (by kernel_rfl))
 f166:=Eq.trans Tryz.func64 (congrArg some (by kernel_rfl))
 f169:=Eq.trans Tryz.func65 (congrArg some (by kernel_rfl))
 f240:=Eq.trans Tryz.func84 (congrArg some (by kernel_rfl))
 f241:=Eq.trans Tryz.func85 (congrArg some (by kernel_rfl))
 f276:=Eq.trans Tryz.func101 (congrArg some (by kernel_rfl))
 f277:=Eq.trans Tryz.func102 (congrArg some (by kernel_rfl))
 t0:=Tryz.underlying0
 a0:=Tryz.isAgg0
 z0:=Tryz.sizeOf0
 v0:=Tryz.zeroValue0
 t3:=Tryz.underlying3
 a3:=Tryz.isAgg3
 z3:=Tryz.sizeOf3
 v3:=Tryz.zeroValue3
 t4:=Tryz.underlying4
 a4:=Tryz.isAgg4
 z4:=Tryz.sizeOf4
 v4:=Tryz.zeroValue4
 t9:=Tryz.underlying9
 a9:=Tryz.isAgg9
 z9:=Tryz.sizeOf9
 v9:=Tryz.zeroValue9
 t20:=Tryz.underlying20
 a20:=Tryz.isAgg20
 z20:=Tryz.sizeOf20
 v20:=Tryz.zeroValue20
 t31:=Tryz.underlying99
 a31:=Tryz.isAgg99
 z31:=Tryz.sizeOf99
 v31:=Tryz.zeroValue99
 t37:=Tryz.underlying37
 a37:=Tryz.isAgg37
 z37:=Tryz.sizeOf37
 v37:=Tryz.zeroValue37
 t70:=Tryz.underlying136
 a70:=Tryz.isAgg136
 z70:=Tryz.sizeOf136
 v70:=Tryz.zeroValue136
 t72:=Tryz.underlying138
 a72:=Tryz.isAgg138
 z72:=Tryz.sizeOf138
 v72:=Tryz.zeroValue138
 t75:=Tryz.underlying141
 a75:=Tryz.isAgg141
 z75:=Tryz.sizeOf141
 v75:=Tryz.zeroValue141
 t76:=Tryz.underlying142
 a76:=Tryz.isAgg142
 z76:=Tryz.sizeOf142
 v76:=Tryz.zeroValue142
 t127:=Tryz.underlying163
 a127:=Tryz.isAgg163
 z127:=Tryz.sizeOf163
 v127:=Tryz.zeroValue163
 t164:=Tryz.underlying183
 a164:=Tryz.isAgg183
 z164:=Tryz.sizeOf183
 v164:=Tryz.zeroValue183
end Go.Proofs
