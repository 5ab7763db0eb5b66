/- Part 12 of what the claim leans on: facts on the program that the kernel computes. -/
import Derived.Test.YtpeihknododmlaaGreatDoorRRv11
set_option maxHeartbeats 2000000
set_option maxRecDepth 100000
namespace Go.Proofs.YtpeihknododmlaaGreatDoor
open Go.Proofs.Tryz
theorem zwf:Rows.recordRunsRow.wfByText (OpenSpec.ofChange Rows.recordRunsSpec)=true:=by kernel_rfl
theorem zlk:false=Tryz.pinned.checked.prog.looks []:=by kernel_rfl
theorem zga:prog.funcs.any Func.goes=false:=by kernel_rfl
theorem zgb{P:Program}(h:P.funcs.any Func.goes=false)(f:FuncId):P.goes f=false:=by
 have h2:∀g:FuncId,(P.funcs[g]?).any Func.goes=false:=fun g=>by
  cases hg:P.funcs[g]? with
  |none=>rfl
  |some fn=>
   obtain⟨hi,rfl⟩:=Array.getElem?_eq_some_iff.1 hg
   simpa using Array.any_eq_false.1 h g hi
 unfold Program.goes;rw[h,Bool.and_false,Bool.or_false];simp only[h2];simp
theorem zgo:false=Rows.recordRunsRow.goesBy Tryz.pinned.checked.prog:=by
 unfold OpenClaim.goesBy Program.goesAt Program.goesFrom
 have h:∀f,Tryz.pinned.checked.prog.goes f=false:=zgb zga
 cases Tryz.pinned.checked.prog.funcNamed Rows.recordRunsRow.func with
 |none=>rfl
 |some f=>exact((Bool.or_false _).trans (h f)).symm
theorem zmn:Tryz.pinned.checked.prog.mainIs=some (true,"803289d9748d751591d3f5fd9bdaa58050d5186e47523c297b57b089bacb4f00".toList):=by kernel_rfl
theorem zws:([29,30].all fun u=>!prog.wantsStandIn u)=true:=by kernel_rfl
theorem znm:prog.funcNamed "rootcause/rootcauselaw24.RecordRuns"=some 3:=by kernel_rfl
theorem zin:f3.isInstance Tryz.pinned.checked.prog Rows.recordRunsRow.origin Rows.recordRunsRow.targs:=of_decide_eq_true (by kernel_rfl)
theorem zwr:f3.isWrapper Tryz.pinned.checked.prog Rows.recordRunsRow.wrapper Rows.recordRunsRow.mainSum:=by
 unfold Func.isWrapper;first|(rw[if_pos (by decide +kernel)];kernel_rfl)|(rw[if_neg (by decide +kernel)];exact⟨rfl,rfl⟩)
end Go.Proofs.YtpeihknododmlaaGreatDoor
