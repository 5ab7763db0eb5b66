/-
  What the claim leans on, part 12.
-/
import Derived.Test.YtifaebmmbpkclaaDoorRCl11
import Derived.Shelf.Strings.OnBuilder
set_option maxRecDepth 100000
set_option maxHeartbeats 2000000
set_option linter.unusedVariables false
namespace Go.Proofs
open Go.Shelf Go.RowKit
def Tryd.laysJn_ren : Ren:={ f:=fun x=>match x with | 156=>20 | 165=>30 | 166=>31 | 169=>32 | 240=>56 | 241=>57 | 276=>81 | 277=>82 | n=>n,t:=fun x=>match x with | 31=>67 | 9=>9 | 3=>3 | 4=>4 | 0=>0 | 20=>20 | 72=>87 | 76=>91 | 70=>85 | 37=>46 | 75=>90 | 127=>125 | 164=>157 | 5=>5 | 80=>45 | n=>n,g:=fun n=>n }
theorem Tryd.laysJn : Lays.n156 Tryd.prog Tryd.laysJn_ren where
 mixed:=by kernel_rfl
 f156:=Eq.trans Tryd.func20 (congrArg some (by kernel_rfl))
 f165:=Eq.trans Tryd.func30 (congrArg some (by kernel_rfl))
 f166:=Eq.trans Tryd.func31 (congrArg some (by kernel_rfl))
 f169:=Eq.trans Tryd.func32 (congrArg some (by kernel_rfl))
 f240:=Eq.trans Tryd.func56 (congrArg some (by kernel_rfl))
 f241:=Eq.trans Tryd.func57 (congrArg some (by kernel_rfl))
 f276:=Eq.trans Tryd.func81 (congrArg some (by kernel_rfl))
 f277:=Eq.trans Tryd.func82 (congrArg some (by kernel_rfl))
 t0:=Tryd.underlying0
 a0:=Tryd.isAgg0
 z0:=Tryd.sizeOf0
 v0:=Tryd.zeroValue0
 t3:=Tryd.underlying3
 a3:=Tryd.isAgg3
 z3:=Tryd.sizeOf3
 v3:=Tryd.zeroValue3
 t4:=Tryd.underlying4
 a4:=Tryd.isAgg4
 z4:=Tryd.sizeOf4
 v4:=Tryd.zeroValue4
 t9:=Tryd.underlying9
 a9:=Tryd.isAgg9
 z9:=Tryd.sizeOf9
 v9:=Tryd.zeroValue9
 t20:=Tryd.underlying20
 a20:=Tryd.isAgg20
 z20:=Tryd.sizeOf20
 v20:=Tryd.zeroValue20
 t31:=Tryd.underlying67
 a31:=Tryd.isAgg67
 z31:=Tryd.sizeOf67
 v31:=Tryd.zeroValue67
 t37:=Tryd.underlying46
 a37:=Tryd.isAgg46
 z37:=Tryd.sizeOf46
 v37:=Tryd.zeroValue46
 t70:=Tryd.underlying85
 a70:=Tryd.isAgg85
 z70:=Tryd.sizeOf85
 v70:=Tryd.zeroValue85
 t72:=Tryd.underlying87
 a72:=Tryd.isAgg87
 z72:=Tryd.sizeOf87
 v72:=Tryd.zeroValue87
 t75:=Tryd.underlying90
 a75:=Tryd.isAgg90
 z75:=Tryd.sizeOf90
 v75:=Tryd.zeroValue90
 t76:=Tryd.underlying91
 a76:=Tryd.isAgg91
 z76:=Tryd.sizeOf91
 v76:=Tryd.zeroValue91
 t127:=Tryd.underlying125
 a127:=Tryd.isAgg125
 z127:=Tryd.sizeOf125
 v127:=Tryd.zeroValue125
 t164:=Tryd.underlying157
 a164:=Tryd.isAgg157
 z164:=Tryd.sizeOf157
 v164:=Tryd.zeroValue157
end Go.Proofs
