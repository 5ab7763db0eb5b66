/-
  What the claim leans on, part 10.
-/
import Derived.Test.YtifaebmmbpkclaaDoorRCl9
import Derived.Test.YtifaebmmbpkclaaDoorProg
import Derived.Shelf.Strconv.Itoa3
set_option maxRecDepth 100000
set_option maxHeartbeats 2000000
set_option linter.unusedVariables false
namespace Go.Proofs
open Go.Shelf Go.RowKit Go.Lib Go.Sort
def Tryd.laysSm_ren : Ren:={ f:=fun x=>match x with | 283=>52 | n=>n,t:=fun x=>match x with | 3=>3 | 9=>9 | 4=>4 | n=>n,g:=fun n=>n }
theorem Tryd.laysSm : Lays.n283 Tryd.prog Tryd.laysSm_ren where
 mixed:=by kernel_rfl
 f283:=Eq.trans Tryd.func52 (congrArg some (by kernel_rfl))
 t3:=Tryd.underlying3
 a3:=Tryd.isAgg3
 z3:=Tryd.sizeOf3
 v3:=Tryd.zeroValue3
 t4:=Tryd.underlying4
 a4:=Tryd.isAgg4
 z4:=Tryd.sizeOf4
 v4:=Tryd.zeroValue4
 t9:=Tryd.underlying9
 a9:=Tryd.isAgg9
 z9:=Tryd.sizeOf9
 v9:=Tryd.zeroValue9
def Tryd.laysNd_ren : Ren:={ f:=fun x=>match x with | 284=>53 | 129=>77 | 317=>76 | 318=>78 | n=>n,t:=fun x=>match x with | 53=>34 | 3=>3 | 212=>153 | 0=>0 | 4=>4 | 46=>102 | 5=>5 | 9=>9 | n=>n,g:=fun x=>match x with | 17=>0 | n=>n }
theorem Tryd.laysNd : LaysM.n284 Tryd.prog Tryd.laysNd_ren where
 mixed:=by kernel_rfl
 f129:=Eq.trans Tryd.func77 (congrArg some (by kernel_rfl))
 f284:=Eq.trans Tryd.func53 (congrArg some (by kernel_rfl))
 f317:=Eq.trans Tryd.func76 (congrArg some (by kernel_rfl))
 f318:=Eq.trans Tryd.func78 (congrArg some (by kernel_rfl))
 t0:=Tryd.underlying0
 a0:=Tryd.isAgg0
 z0:=Tryd.sizeOf0
 v0:=Tryd.zeroValue0
 t3:=Tryd.underlying3
 a3:=Tryd.isAgg3
 z3:=Tryd.sizeOf3
 v3:=Tryd.zeroValue3
 t4:=Tryd.underlying4
 a4:=Tryd.isAgg4
 z4:=Tryd.sizeOf4
 v4:=Tryd.zeroValue4
 t5:=Tryd.underlying5
 a5:=Tryd.isAgg5
 z5:=Tryd.sizeOf5
 v5:=Tryd.zeroValue5
 t9:=Tryd.underlying9
 a9:=Tryd.isAgg9
 z9:=Tryd.sizeOf9
 v9:=Tryd.zeroValue9
 t46:=Tryd.underlying102
 a46:=Tryd.isAgg102
 z46:=Tryd.sizeOf102
 v46:=Tryd.zeroValue102
 t53:=Tryd.underlying34
 a53:=Tryd.isAgg34
 z53:=Tryd.sizeOf34
 v53:=Tryd.zeroValue34
 t212:=Tryd.underlying153
 a212:=Tryd.isAgg153
 z212:=Tryd.sizeOf153
 v212:=Tryd.zeroValue153
 g17:=by kernel_rfl
 i0:=by kernel_rfl
 i3:=by kernel_rfl
 i4:=by kernel_rfl
 i5:=by kernel_rfl
 i9:=by kernel_rfl
 i46:=by kernel_rfl
 i53:=by kernel_rfl
 i212:=by kernel_rfl
 m17:=by kernel_rfl
def Tryd.laysFb_ren : Ren:={ f:=fun x=>match x with | 285=>54 | n=>n,t:=fun x=>match x with | 37=>46 | 53=>34 | 3=>3 | 4=>4 | 51=>103 | 9=>9 | 5=>5 | 0=>0 | n=>n,g:=fun n=>n }
theorem Tryd.laysFb : Lays.n285 Tryd.prog Tryd.laysFb_ren where
 mixed:=by kernel_rfl
 f285:=Eq.trans Tryd.func54 (congrArg some (by kernel_rfl))
 t0:=Tryd.underlying0
 a0:=Tryd.isAgg0
 z0:=Tryd.sizeOf0
 v0:=Tryd.zeroValue0
 t3:=Tryd.underlying3
 a3:=Tryd.isAgg3
 z3:=Tryd.sizeOf3
 v3:=Tryd.zeroValue3
 t4:=Tryd.underlying4
 a4:=Tryd.isAgg4
 z4:=Tryd.sizeOf4
 v4:=Tryd.zeroValue4
 t5:=Tryd.underlying5
 a5:=Tryd.isAgg5
 z5:=Tryd.sizeOf5
 v5:=Tryd.zeroValue5
 t9:=Tryd.underlying9
 a9:=Tryd.isAgg9
 z9:=Tryd.sizeOf9
 v9:=Tryd.zeroValue9
 t37:=Tryd.underlying46
 a37:=Tryd.isAgg46
 z37:=Tryd.sizeOf46
 v37:=Tryd.zeroValue46
 t51:=Tryd.underlying103
 a51:=Tryd.isAgg103
 z51:=Tryd.sizeOf103
 v51:=Tryd.zeroValue103
 t53:=Tryd.underlying34
 a53:=Tryd.isAgg34
 z53:=Tryd.sizeOf34
 v53:=Tryd.zeroValue34
end Go.Proofs
