/-
  What the claim leans on, part 10.
-/
import Derived.Test.YtifaebmmbpkclaaGreatDoorRWr9
import Derived.Test.YtifaebmmbpkclaaGreatDoorProg
import Derived.Shelf.Strconv.Itoa3
set_option maxRecDepth 100000
set_option maxHeartbeats 2000000
set_option linter.unusedVariables false
namespace Go.Proofs
open Go.Shelf Go.RowKit Go.Lib Go.Sort
def Tryz.laysSm_ren : Ren:={ f:=fun x=>match x with | 283=>80 | n=>n,t:=fun x=>match x with | 3=>3 | 9=>9 | 4=>4 | n=>n,g:=fun n=>n }
theorem Tryz.laysSm : Lays.n283 Tryz.prog Tryz.laysSm_ren where
 mixed:=by kernel_rfl
 f283:=Eq.trans Tryz.func80 (congrArg some (by kernel_rfl))
 t3:=Tryz.underlying3
 a3:=Tryz.isAgg3
 z3:=Tryz.sizeOf3
 v3:=Tryz.zeroValue3
 t4:=Tryz.underlying4
 a4:=Tryz.isAgg4
 z4:=Tryz.sizeOf4
 v4:=Tryz.zeroValue4
 t9:=Tryz.underlying9
 a9:=Tryz.isAgg9
 z9:=Tryz.sizeOf9
 v9:=Tryz.zeroValue9
def Tryz.laysNd_ren : Ren:={ f:=fun x=>match x with | 284=>81 | 129=>97 | 317=>96 | 318=>98 | n=>n,t:=fun x=>match x with | 53=>41 | 3=>3 | 212=>179 | 0=>0 | 4=>4 | 46=>86 | 5=>5 | 9=>9 | n=>n,g:=fun x=>match x with | 17=>0 | n=>n }
theorem Tryz.laysNd : LaysM.n284 Tryz.prog Tryz.laysNd_ren where
 mixed:=by kernel_rfl
 f129:=Eq.trans Tryz.func97 (congrArg some (by kernel_rfl))
 f284:=Eq.trans Tryz.func81 (congrArg some (by kernel_rfl))
 f317:=Eq.trans Tryz.func96 (congrArg some (by kernel_rfl))
 f318:=Eq.trans Tryz.func98 (congrArg some (by kernel_rfl))
 t0:=Tryz.underlying0
 a0:=Tryz.isAgg0
 z0:=Tryz.sizeOf0
 v0:=Tryz.zeroValue0
 t3:=Tryz.underlying3
 a3:=Tryz.isAgg3
 z3:=Tryz.sizeOf3
 v3:=Tryz.zeroValue3
 t4:=Tryz.underlying4
 a4:=Tryz.isAgg4
 z4:=Tryz.sizeOf4
 v4:=Tryz.zeroValue4
 t5:=Tryz.underlying5
 a5:=Tryz.isAgg5
 z5:=Tryz.sizeOf5
 v5:=Tryz.zeroValue5
 t9:=Tryz.underlying9
 a9:=Tryz.isAgg9
 z9:=Tryz.sizeOf9
 v9:=Tryz.zeroValue9
 t46:=Tryz.underlying86
 a46:=Tryz.isAgg86
 z46:=Tryz.sizeOf86
 v46:=Tryz.zeroValue86
 t53:=Tryz.underlying41
 a53:=Tryz.isAgg41
 z53:=Tryz.sizeOf41
 v53:=Tryz.zeroValue41
 t212:=Tryz.underlying179
 a212:=Tryz.isAgg179
 z212:=Tryz.sizeOf179
 v212:=Tryz.zeroValue179
 g17:=by kernel_rfl
 i0:=by kernel_rfl
 i3:=by kernel_rfl
 i4:=by kernel_rfl
 i5:=by kernel_rfl
 i9:=by kernel_rfl
 i46:=by kernel_rfl
 i53:=by kernel_rfl
 i212:=by kernel_rfl
 m17:=by kernel_rfl
def Tryz.laysFb_ren : Ren:={ f:=fun x=>match x with | 285=>82 | n=>n,t:=fun x=>match x with | 37=>37 | 53=>41 | 3=>3 | 4=>4 | 51=>87 | 9=>9 | 5=>5 | 0=>0 | n=>n,g:=fun n=>n }
theorem Tryz.laysFb : Lays.n285 Tryz.prog Tryz.laysFb_ren where
 mixed:=by kernel_rfl
 f285:=Eq.trans Tryz.func82 (congrArg some (by kernel_rfl))
 t0:=Tryz.underlying0
 a0:=Tryz.isAgg0
 z0:=Tryz.sizeOf0
 v0:=Tryz.zeroValue0
 t3:=Tryz.underlying3
 a3:=Tryz.isAgg3
 z3:=Tryz.sizeOf3
 v3:=Tryz.zeroValue3
 t4:=Tryz.underlying4
 a4:=Tryz.isAgg4
 z4:=Tryz.sizeOf4
 v4:=Tryz.zeroValue4
 t5:=Tryz.underlying5
 a5:=Tryz.isAgg5
 z5:=Tryz.sizeOf5
 v5:=Tryz.zeroValue5
 t9:=Tryz.underlying9
 a9:=Tryz.isAgg9
 z9:=Tryz.sizeOf9
 v9:=Tryz.zeroValue9
 t37:=Tryz.underlying37
 a37:=Tryz.isAgg37
 z37:=Tryz.sizeOf37
 v37:=Tryz.zeroValue37
 t51:=Tryz.underlying87
 a51:=Tryz.isAgg87
 z51:=Tryz.sizeOf87
 v51:=Tryz.zeroValue87
 t53:=Tryz.underlying41
 a53:=Tryz.isAgg41
 z53:=Tryz.sizeOf41
 v53:=Tryz.zeroValue41
end Go.Proofs
