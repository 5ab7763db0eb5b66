/- Part 11 of what the claim leans on. -/
import Derived.Test.YtaafmkmdfcgeaaaGreatDoorRBv10
import Derived.Test.YtaafmkmdfcgeaaaGreatDoorTie
import Derived.Test.YtaafmkmdfcgeaaaGreatDoorCards
set_option maxHeartbeats 2000000
set_option maxRecDepth 100000
set_option linter.unusedVariables false
set_option linter.unusedSimpArgs false
noncomputable section
namespace Go.Proofs.YtaafmkmdfcgeaaaGreatDoor
open Go.Proofs.Tryz
open Go.ChangeShapes Go.WideShapes Go.ChangeAt Go.RowKit
def MD(os:Os):World :=
 let w0:=World.holding prog os ⟨#[],#[],[]⟩
 { w0 with heap:=(((((((((w0.heap.modify 2 fun
   |.cells _ t frozen=>.cells (flat (H:=Unit) Rows.laid_math_bits_deBruijn32tab).toArray t frozen
   |o=>o).modify 3 fun
   |.cells _ t frozen=>.cells (flat (H:=Unit) Rows.laid_math_bits_deBruijn64tab).toArray t frozen
   |o=>o).modify 0 fun
   |.cells _ t frozen=>.cells (flat (H:=Unit) Rows.laid_internal_strconv_uint64pow10).toArray t frozen
   |o=>o).modify 6 fun
   |.cells _ t frozen=>.cells (flat (H:=Unit) Rows.laid_rootcause_digest_constants).toArray t frozen
   |o=>o).modify 10 fun
   |.cells _ t frozen=>.cells (flat (H:=Unit) Rows.laid_rootcause_lexer_words).toArray t frozen
   |o=>o).modify 8 fun
   |.cells _ t frozen=>.cells (flat (H:=Unit) Rows.laid_rootcause_lexer_symbols).toArray t frozen
   |o=>o).modify 11 fun
   |.cells _ t frozen=>.cells (flat (H:=Unit) Rows.laid_rootcause_syntax_shapes).toArray t frozen
   |o=>o).modify 9 fun
   |.cells _ t frozen=>.cells (flat (H:=Unit) Rows.laid_rootcause_syntax_forms).toArray t frozen
   |o=>o).modify 7 fun
   |.cells _ t frozen=>.cells (flat (H:=Unit) Rows.laid_rootcause_code_rows).toArray t frozen
   |o=>o) }
theorem acL(os:Os)(args:Array Value):laidMet prog Rows.recorderBeforeRow.laid ((MD os).forCall (λ_ _=>0) ⟨#[],args,[]⟩).memory :=
 laidMet_of_run' 8 bp bp
theorem aj6:okL prog Rows.recorderBeforeRow.laid Ie=true:=bp
theorem aj8:Ie.map (·.2)=Rows.recorderBeforeRow.laid.map (λx=>(flat x.2).toArray):=bp
theorem own:ownKnob prog.godebug=none:=bp
theorem laidOut:laidOutB prog=true:=bp
theorem amZ:(Rows.recorderBeforeRow.inPlace==Tryz.checked.prog.inPlace 3)=true:=bp
theorem amY:(Rows.recorderBeforeRow.unfollowed==Tryz.checked.prog.unfollowed 3)=true:=bp
theorem amX:(Rows.recorderBeforeRow.recurses==Tryz.checked.prog.recurses 3)=true:=bp
theorem amW:(Rows.recorderBeforeRow.named==Tryz.checked.prog.varsNamed 3)=true:=bp
theorem amV:laidOutB Tryz.checked.prog=true:=bp
theorem amU:mapsRowed Tryz.checked.prog=true:=bp
theorem amT:(Rows.recorderBeforeRow.plainKeys==Tryz.checked.prog.plainKeys)=true:=bp
theorem amS:Program.stopsHeard Tryz.checked.prog=true:=bp
theorem amR:Program.mayEnter Tryz.checked.prog=true:=bp
theorem amQ:(Rows.recorderBeforeRow.lifted==Tryz.checked.prog.liftsFinal)=true:=bp
theorem aj4:(Program.make Tryz.checked.prog==some Rows.recorderBeforeRow.make)=true:=bp
theorem told:joinedFacts Tryz.checked.prog 3 Tryz.f3 Rows.recorderBeforeSpec Rows.recorderBeforeRow=true:=by
 unfold joinedFacts;rw[amZ,amY,amX,amW,amV,amU,amT,amS,amR,amQ,aj4]
 kernel_rfl
theorem Kk:prog.funcNamed "rootcause/rootcauselaw28.RecorderBefore" = some 3:=bp
theorem ZO:Tryz.f3.isInstance Tryz.pinned.checked.prog Rows.recorderBeforeRow.origin Rows.recorderBeforeRow.targs:=of_decide_eq_true bp
theorem ZM:Tryz.f3.isWrapper Tryz.pinned.checked.prog Rows.recorderBeforeRow.wrapper Rows.recorderBeforeRow.mainSum:=by unfold Func.isWrapper;first|(rw[if_pos Vx];kernel_rfl)|(rw[if_neg Vx];exact⟨rfl,rfl⟩)
theorem ahK:Rows.recorderBeforeRow.wfByText (OpenSpec.ofChange Rows.recorderBeforeSpec)=true:=bp
theorem Vp:false=Tryz.pinned.checked.prog.looks []:=bp
theorem ZN:Tryz.pinned.checked.prog.mainIs=some (true,("75d96733420d3a248248273548854768cead030507bf9e2d4a57c2c91043e91a").toList):=bp
theorem Vo:([29].all λu=>!prog.wantsStandIn u)=true:=bp
theorem ac2:prog.funcs.any Func.goes=false:=bp
theorem ac1{P:Program}(h:P.funcs.any Func.goes=false)(f:FuncId):P.goes f=false:=by
 have h2:∀g:FuncId,(P.funcs[g]?).any Func.goes=false:=λg=>by
  cases hg:P.funcs[g]? with
  |none=>rfl
  |some fn=>
   obtain⟨hi,rfl⟩:=Array.getElem?_eq_some_iff.1 hg;simpa using Array.any_eq_false.1 h g hi
 unfold Program.goes;rw[h,Bool.and_false,Bool.or_false];simp only[h2];simp
theorem ZP:false=Rows.recorderBeforeRow.goesBy Tryz.pinned.checked.prog:=by
 unfold OpenClaim.goesBy Program.goesAt Program.goesFrom;have h:∀f,Tryz.pinned.checked.prog.goes f=false:=ac1 ac2;cases Tryz.pinned.checked.prog.funcNamed Rows.recorderBeforeRow.func with
 |none=>rfl
 |some f=>exact((Bool.or_false _).trans (h f)).symm
end Go.Proofs.YtaafmkmdfcgeaaaGreatDoor
