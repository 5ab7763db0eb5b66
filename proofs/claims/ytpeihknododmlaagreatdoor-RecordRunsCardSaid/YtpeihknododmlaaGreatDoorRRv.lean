/-
  RecordRunsCardSaid: for every input the law RecordRuns (every event of every run, as an entry with any clock, comes back from its bytes) returns true and leaves its arguments as they were. No condition.
-/
import Derived.Test.YtpeihknododmlaaGreatDoorRRv12
set_option maxHeartbeats 2000000
set_option maxRecDepth 100000
set_option linter.unusedVariables false
set_option linter.unusedSimpArgs false
namespace Go.Proofs.YtpeihknododmlaaGreatDoor
open Go.Proofs.Tryz
open Go.ChangeShapes Go.WideShapes Go.ChangeAt Go.RowKit
theorem Ax:prog.cellsOf 5=1:=by kernel_rfl
theorem Kf:prog.cellsOf 175=4:=by kernel_rfl
theorem Fe:prog.cellsOf 193=2:=by kernel_rfl
theorem OX:prog.cellsOf 22=1:=by kernel_rfl
def bp.ok(x:bp):Prop:=xU .u8 x.dM∧(x.rI.length≤9223372036854775807∧∀y∈x.rI,xU .u8 y)
theorem vD{H:Type}{enc:TypeId×Value→H}{w:World}{fuel:Nat}{cs:List Value}{y:DataW H×List MemPlace}(h:DataW.trod enc prog w 0 (fun _=>true) true fuel 193 cs=some y):∃x:bp,fG (xk w) fc.no (Wt x) cs∧bp.ok x:=by
 obtain⟨xs,n,_,_,hlen,yM,hg⟩:=DataW.trod_struct underlying193 h;rw[Fe]at hlen;obtain⟨_,g0⟩:=fy (t:=5) (o:=0) (hg 0 _ rfl) Ax yM (by decide);obtain⟨_,g1⟩:=fy (t:=22) (o:=1) (hg 1 _ rfl) OX yM (by decide);obtain⟨x0,r0,k0⟩:=(qk underlying5) g0;obtain⟨x1,r1,k1⟩:=(tg (α:=Int) (dv:=(DV.int .u8)) (ok:=(fun y=>xU .u8 y)) underlying22 Ax (by decide) (fun _=>rfl) (fun _ _ _ h=>(qk underlying5) h)) g1;exact⟨⟨x0,x1⟩,fG.join (off:=0) (n:=1) (by rw[hlen];decide) r0 (fG.join (off:=1) (n:=1) (by rw[hlen];decide) r1 (fG.done (n:=2) hlen)),⟨k0,k1⟩⟩
theorem Kg:prog.cellsOf 173=1:=by kernel_rfl
def bL.ok(x:bL):Prop:=xU .u8 x.zc∧xU .u8 x.cX∧(x.bP.length≤9223372036854775807∧∀y∈x.bP,bp.ok y)∧(x.kB.length≤9223372036854775807∧∀y∈x.kB,bp.ok y)
theorem An{H:Type}{enc:TypeId×Value→H}{w:World}{fuel:Nat}{cs:List Value}{y:DataW H×List MemPlace}(h:DataW.trod enc prog w 0 (fun _=>true) true fuel 175 cs=some y):∃x:bL,fG (xk w) fc.no (Qk x) cs∧bL.ok x:=by
 obtain⟨xs,n,_,_,hlen,yM,hg⟩:=DataW.trod_struct underlying175 h;rw[Kf]at hlen;obtain⟨_,g0⟩:=fy (t:=5) (o:=0) (hg 0 _ rfl) Ax yM (by decide);obtain⟨_,g1⟩:=fy (t:=5) (o:=1) (hg 1 _ rfl) Ax yM (by decide);obtain⟨_,g2⟩:=fy (t:=173) (o:=2) (hg 2 _ rfl) Kg yM (by decide);obtain⟨_,g3⟩:=fy (t:=173) (o:=3) (hg 3 _ rfl) Kg yM (by decide);obtain⟨x0,r0,k0⟩:=(qk underlying5) g0;obtain⟨x1,r1,k1⟩:=(qk underlying5) g1;obtain⟨x2,r2,k2⟩:=(tg (α:=bp) (dv:=Bk) (ok:=(fun y=>bp.ok y)) underlying173 Fe (by decide) (fun _=>rfl) (fun _ _ _ h=>(vD) h)) g2;obtain⟨x3,r3,k3⟩:=(tg (α:=bp) (dv:=Bk) (ok:=(fun y=>bp.ok y)) underlying173 Fe (by decide) (fun _=>rfl) (fun _ _ _ h=>(vD) h)) g3;exact⟨⟨x0,x1,x2,x3⟩,fG.join (off:=0) (n:=1) (by rw[hlen];decide) r0 (fG.join (off:=1) (n:=1) (by rw[hlen];decide) r1 (fG.join (off:=2) (n:=1) (by rw[hlen];decide) r2 (fG.join (off:=3) (n:=1) (by rw[hlen];decide) r3 (fG.done (n:=4) hlen)))),⟨k0,k1,k2,k3⟩⟩
theorem YY:prog.cellsOf 23=1:=by kernel_rfl
theorem OW:prog.cellsOf 25=3:=by kernel_rfl
def dg.ok(x:dg):Prop:=xU .u8 x.aR∧(x.fP.length≤9223372036854775807∧∀y∈x.fP,xU .u8 y)∧(x.aF.length≤9223372036854775807∧∀y∈x.aF,bL.ok y)
theorem Am{H:Type}{enc:TypeId×Value→H}{w:World}{fuel:Nat}{cs:List Value}{y:DataW H×List MemPlace}(h:DataW.trod enc prog w 0 (fun _=>true) true fuel 25 cs=some y):∃x:dg,fG (xk w) fc.no (KD x) cs∧dg.ok x:=by
 obtain⟨xs,n,_,_,hlen,yM,hg⟩:=DataW.trod_struct underlying25 h;rw[OW]at hlen;obtain⟨_,g0⟩:=fy (t:=5) (o:=0) (hg 0 _ rfl) Ax yM (by decide);obtain⟨_,g1⟩:=fy (t:=22) (o:=1) (hg 1 _ rfl) OX yM (by decide);obtain⟨_,g2⟩:=fy (t:=23) (o:=2) (hg 2 _ rfl) YY yM (by decide);obtain⟨x0,r0,k0⟩:=(qk underlying5) g0;obtain⟨x1,r1,k1⟩:=(tg (α:=Int) (dv:=(DV.int .u8)) (ok:=(fun y=>xU .u8 y)) underlying22 Ax (by decide) (fun _=>rfl) (fun _ _ _ h=>(qk underlying5) h)) g1;obtain⟨x2,r2,k2⟩:=(tg (α:=bL) (dv:=GG) (ok:=(fun y=>bL.ok y)) underlying23 Kf (by decide) (fun _=>rfl) (fun _ _ _ h=>(An) h)) g2;exact⟨⟨x0,x1,x2⟩,fG.join (off:=0) (n:=1) (by rw[hlen];decide) r0 (fG.join (off:=1) (n:=1) (by rw[hlen];decide) r1 (fG.join (off:=2) (n:=1) (by rw[hlen];decide) r2 (fG.done (n:=3) hlen))),⟨k0,k1,k2⟩⟩
theorem Kl:prog.cellsOf 123=7:=by kernel_rfl
theorem Vn:prog.cellsOf 119=1:=by kernel_rfl
theorem wR:prog.cellsOf 3=1:=by kernel_rfl
theorem Km:prog.cellsOf 121=4:=by kernel_rfl
def aH.ok(x:aH):Prop:=xU .u8 x.bw∧xU .i64 x.gA∧xU .i64 x.gB∧xU .i64 x.gN
theorem QQ{H:Type}{enc:TypeId×Value→H}{w:World}{fuel:Nat}{cs:List Value}{y:DataW H×List MemPlace}(h:DataW.trod enc prog w 0 (fun _=>true) true fuel 121 cs=some y):∃x:aH,fG (xk w) fc.no (cM x) cs∧aH.ok x:=by
 obtain⟨xs,n,_,_,hlen,yM,hg⟩:=DataW.trod_struct underlying121 h;rw[Km]at hlen;obtain⟨_,g0⟩:=fy (t:=119) (o:=0) (hg 0 _ rfl) Vn yM (by decide);obtain⟨_,g1⟩:=fy (t:=3) (o:=1) (hg 1 _ rfl) wR yM (by decide);obtain⟨_,g2⟩:=fy (t:=3) (o:=2) (hg 2 _ rfl) wR yM (by decide);obtain⟨_,g3⟩:=fy (t:=3) (o:=3) (hg 3 _ rfl) wR yM (by decide);obtain⟨x0,r0,k0⟩:=(qk underlying119) g0;obtain⟨x1,r1,k1⟩:=(qk underlying3) g1;obtain⟨x2,r2,k2⟩:=(qk underlying3) g2;obtain⟨x3,r3,k3⟩:=(qk underlying3) g3;exact⟨⟨x0,x1,x2,x3⟩,fG.join (off:=0) (n:=1) (by rw[hlen];decide) r0 (fG.join (off:=1) (n:=1) (by rw[hlen];decide) r1 (fG.join (off:=2) (n:=1) (by rw[hlen];decide) r2 (fG.join (off:=3) (n:=1) (by rw[hlen];decide) r3 (fG.done (n:=4) hlen)))),⟨k0,k1,k2,k3⟩⟩
theorem Tq:prog.cellsOf 2=1:=by kernel_rfl
theorem OV:prog.cellsOf 60=1:=by kernel_rfl
def aq.ok(x:aq):Prop:=aH.ok x.cG∧xU .i64 x.AN∧xU .i64 x.gD∧(x.bR.length≤9223372036854775807∧∀y∈x.bR,xU .i64 y)
theorem Iy{H:Type}{enc:TypeId×Value→H}{w:World}{fuel:Nat}{cs:List Value}{y:DataW H×List MemPlace}(h:DataW.trod enc prog w 0 (fun _=>true) true fuel 123 cs=some y):∃x:aq,fG (xk w) fc.no (yf x) cs∧aq.ok x:=by
 obtain⟨xs,n,_,_,hlen,yM,hg⟩:=DataW.trod_struct underlying123 h;rw[Kl]at hlen;obtain⟨_,g0⟩:=fy (t:=121) (o:=0) (hg 0 _ rfl) Km yM (by decide);obtain⟨_,g1⟩:=fy (t:=3) (o:=4) (hg 1 _ rfl) wR yM (by decide);obtain⟨_,g2⟩:=fy (t:=3) (o:=5) (hg 2 _ rfl) wR yM (by decide);obtain⟨_,g3⟩:=fy (t:=60) (o:=6) (hg 3 _ rfl) OV yM (by decide);obtain⟨x0,r0,k0⟩:=(QQ) g0;obtain⟨x1,r1,k1⟩:=(qk underlying3) g1;obtain⟨x2,r2,k2⟩:=(qk underlying3) g2;obtain⟨x3,r3,k3⟩:=(tg (α:=Int) (dv:=(DV.int .i64)) (ok:=(fun y=>xU .i64 y)) underlying60 Tq (by decide) (fun _=>rfl) (fun _ _ _ h=>(qk underlying2) h)) g3;exact⟨⟨x0,x1,x2,x3⟩,fG.join (off:=0) (n:=4) (by rw[hlen];decide) r0 (fG.join (off:=4) (n:=1) (by rw[hlen];decide) r1 (fG.join (off:=5) (n:=1) (by rw[hlen];decide) r2 (fG.join (off:=6) (n:=1) (by rw[hlen];decide) r3 (fG.done (n:=7) hlen)))),⟨k0,k1,k2,k3⟩⟩
theorem Ki:prog.cellsOf 130=4:=by kernel_rfl
theorem Kk:prog.cellsOf 127=3:=by kernel_rfl
def ei.ok(x:ei):Prop:=xU .i64 x.gS∧xU .i64 x.uS∧xU .i64 x.gN
theorem Hc{H:Type}{enc:TypeId×Value→H}{w:World}{fuel:Nat}{cs:List Value}{y:DataW H×List MemPlace}(h:DataW.trod enc prog w 0 (fun _=>true) true fuel 127 cs=some y):∃x:ei,fG (xk w) fc.no (Bq x) cs∧ei.ok x:=by
 obtain⟨xs,n,_,_,hlen,yM,hg⟩:=DataW.trod_struct underlying127 h;rw[Kk]at hlen;obtain⟨_,g0⟩:=fy (t:=3) (o:=0) (hg 0 _ rfl) wR yM (by decide);obtain⟨_,g1⟩:=fy (t:=3) (o:=1) (hg 1 _ rfl) wR yM (by decide);obtain⟨_,g2⟩:=fy (t:=3) (o:=2) (hg 2 _ rfl) wR yM (by decide);obtain⟨x0,r0,k0⟩:=(qk underlying3) g0;obtain⟨x1,r1,k1⟩:=(qk underlying3) g1;obtain⟨x2,r2,k2⟩:=(qk underlying3) g2;exact⟨⟨x0,x1,x2⟩,fG.join (off:=0) (n:=1) (by rw[hlen];decide) r0 (fG.join (off:=1) (n:=1) (by rw[hlen];decide) r1 (fG.join (off:=2) (n:=1) (by rw[hlen];decide) r2 (fG.done (n:=3) hlen))),⟨k0,k1,k2⟩⟩
theorem Kh:prog.cellsOf 132=3:=by kernel_rfl
def bZ.ok(x:bZ):Prop:=xU .i64 x.AN∧xU .i64 x.bM∧(x.bR.length≤9223372036854775807∧∀y∈x.bR,xU .i64 y)
theorem Hd{H:Type}{enc:TypeId×Value→H}{w:World}{fuel:Nat}{cs:List Value}{y:DataW H×List MemPlace}(h:DataW.trod enc prog w 0 (fun _=>true) true fuel 132 cs=some y):∃x:bZ,fG (xk w) fc.no (KG x) cs∧bZ.ok x:=by
 obtain⟨xs,n,_,_,hlen,yM,hg⟩:=DataW.trod_struct underlying132 h;rw[Kh]at hlen;obtain⟨_,g0⟩:=fy (t:=3) (o:=0) (hg 0 _ rfl) wR yM (by decide);obtain⟨_,g1⟩:=fy (t:=3) (o:=1) (hg 1 _ rfl) wR yM (by decide);obtain⟨_,g2⟩:=fy (t:=60) (o:=2) (hg 2 _ rfl) OV yM (by decide);obtain⟨x0,r0,k0⟩:=(qk underlying3) g0;obtain⟨x1,r1,k1⟩:=(qk underlying3) g1;obtain⟨x2,r2,k2⟩:=(tg (α:=Int) (dv:=(DV.int .i64)) (ok:=(fun y=>xU .i64 y)) underlying60 Tq (by decide) (fun _=>rfl) (fun _ _ _ h=>(qk underlying2) h)) g2;exact⟨⟨x0,x1,x2⟩,fG.join (off:=0) (n:=1) (by rw[hlen];decide) r0 (fG.join (off:=1) (n:=1) (by rw[hlen];decide) r1 (fG.join (off:=2) (n:=1) (by rw[hlen];decide) r2 (fG.done (n:=3) hlen))),⟨k0,k1,k2⟩⟩
theorem Vm:prog.cellsOf 128=1:=by kernel_rfl
def aU.ok(x:aU):Prop:=ei.ok x.cu∧(x.gY.length≤9223372036854775807∧∀y∈x.gY,bZ.ok y)
theorem Od{H:Type}{enc:TypeId×Value→H}{w:World}{fuel:Nat}{cs:List Value}{y:DataW H×List MemPlace}(h:DataW.trod enc prog w 0 (fun _=>true) true fuel 130 cs=some y):∃x:aU,fG (xk w) fc.no (KK x) cs∧aU.ok x:=by
 obtain⟨xs,n,_,_,hlen,yM,hg⟩:=DataW.trod_struct underlying130 h;rw[Ki]at hlen;obtain⟨_,g0⟩:=fy (t:=127) (o:=0) (hg 0 _ rfl) Kk yM (by decide);obtain⟨_,g1⟩:=fy (t:=128) (o:=3) (hg 1 _ rfl) Vm yM (by decide);obtain⟨x0,r0,k0⟩:=(Hc) g0;obtain⟨x1,r1,k1⟩:=(tg (α:=bZ) (dv:=xy) (ok:=(fun y=>bZ.ok y)) underlying128 Kh (by decide) (fun _=>rfl) (fun _ _ _ h=>(Hd) h)) g1;exact⟨⟨x0,x1⟩,fG.join (off:=0) (n:=3) (by rw[hlen];decide) r0 (fG.join (off:=3) (n:=1) (by rw[hlen];decide) r1 (fG.done (n:=4) hlen)),⟨k0,k1⟩⟩
theorem YX:prog.cellsOf 26=1:=by kernel_rfl
theorem YW:prog.cellsOf 27=1:=by kernel_rfl
theorem YV:prog.cellsOf 29=6:=by kernel_rfl
def dA.ok(x:dA):Prop:=dg.ok x.JM∧(x.je.length≤9223372036854775807∧∀y∈x.je,aq.ok y)∧(x.ql.length≤9223372036854775807∧∀y∈x.ql,aU.ok y)∧xU .u8 x.mL
theorem zJ{H:Type}{enc:TypeId×Value→H}{w:World}{fuel:Nat}{cs:List Value}{y:DataW H×List MemPlace}(h:DataW.trod enc prog w 0 (fun _=>true) true fuel 29 cs=some y):∃x:dA,fG (xk w) fc.no (KA x) cs∧dA.ok x:=by
 obtain⟨xs,n,_,_,hlen,yM,hg⟩:=DataW.trod_struct underlying29 h;rw[YV]at hlen;obtain⟨_,g0⟩:=fy (t:=25) (o:=0) (hg 0 _ rfl) OW yM (by decide);obtain⟨_,g1⟩:=fy (t:=26) (o:=3) (hg 1 _ rfl) YX yM (by decide);obtain⟨_,g2⟩:=fy (t:=27) (o:=4) (hg 2 _ rfl) YW yM (by decide);obtain⟨_,g3⟩:=fy (t:=5) (o:=5) (hg 3 _ rfl) Ax yM (by decide);obtain⟨x0,r0,k0⟩:=(Am) g0;obtain⟨x1,r1,k1⟩:=(tg (α:=aq) (dv:=cW) (ok:=(fun y=>aq.ok y)) underlying26 Kl (by decide) (fun _=>rfl) (fun _ _ _ h=>(Iy) h)) g1;obtain⟨x2,r2,k2⟩:=(tg (α:=aU) (dv:=da) (ok:=(fun y=>aU.ok y)) underlying27 Ki (by decide) (fun _=>rfl) (fun _ _ _ h=>(Od) h)) g2;obtain⟨x3,r3,k3⟩:=(qk underlying5) g3;exact⟨⟨x0,x1,x2,x3⟩,fG.join (off:=0) (n:=3) (by rw[hlen];decide) r0 (fG.join (off:=3) (n:=1) (by rw[hlen];decide) r1 (fG.join (off:=4) (n:=1) (by rw[hlen];decide) r2 (fG.join (off:=5) (n:=1) (by rw[hlen];decide) r3 (fG.done (n:=6) hlen)))),⟨k0,k1,k2,k3⟩⟩
theorem YU:prog.cellsOf 48=1:=by kernel_rfl
theorem aei{W:World}(h:laidMet prog Rows.recordRunsRow.laid W):Tbs (xk W):=by
 obtain⟨ps,h,_,_⟩:=h;exact Ow Rows.recordRunsRow.laid DR ps aeh aej h
theorem codeOk{x:bp}(h:bp.ok x):zy x:=by
 obtain⟨h1,h2,h3⟩:=h;simp only[xU]at h1 h3;exact⟨by omega,by omega,h2,fun b hb=>by have:=h3 b hb;omega⟩
theorem aeB{x:bL}(h:bL.ok x):Mi x:=by
 obtain⟨h1,h2,h3,h4⟩:=h;simp only[xU]at h1 h2;exact⟨by omega,by omega,by omega,by omega,fun c hc=>codeOk (h3.2 c hc),fun c hc=>codeOk (h4.2 c hc)⟩
theorem aex{x:dg}(h:dg.ok x):Mh x:=by
 obtain⟨h1,h2,h3⟩:=h;simp only[xU]at h1 h2;exact⟨by omega,by omega,fun b hb=>by have:=h2.2 b hb;omega,fun p hp=>aeB (h3.2 p hp)⟩
theorem chD{x:aq}(h:aq.ok x):ChD x:=by
 obtain⟨⟨h1,h2,h3,h4⟩,h5,h6,h7,h8⟩:=h;simp only[xU]at h1;exact⟨by omega,by omega,h2,h3,h4,h5,h6,fun y hy=>h8 y hy⟩
theorem hdD{x:aU}(h:aU.ok x):HdD x:=by
 obtain⟨⟨h1,h2,h3⟩,h4,h5⟩:=h;exact⟨h1,h2,h3,fun a ha=>⟨(h5 a ha).1,(h5 a ha).2.1,fun y hy=>(h5 a ha).2.2.2 y hy⟩⟩
theorem aaQ{x:dA}(h:dA.ok x):Ma x:=by
 obtain⟨h1,h2,h3,h4⟩:=h;simp only[xU]at h4;exact⟨aex h1,h2.1,fun c hc=>chD (h2.2 c hc),h3.1,fun c hc=>hdD (h3.2 c hc),by omega,by omega⟩
theorem agP{l:List Int}(h:l.length≤9223372036854775807∧∀y∈l,xU .u64 y):∀y∈l,zS y:=fun y hy=>by
 have:=h.2 y hy;simp only[xU]at this;exact⟨by omega,by omega⟩
theorem Eh(os:Os)(started:os.Started)(H:Type)(enc:TypeId×Value→H) :
  ReturnsInHanded {} Tryz.checked os 3 .any (fun w args=>(Rows.recordRunsSpec.pre enc prog Tryz.f3 Rows.recordRunsRow.domain false w args∧laidMet prog Rows.recordRunsRow.laid w)∧sizedMet enc prog Tryz.f3 (OpenSpec.ofChange Rows.recordRunsSpec) false w args) (Rows.recordRunsSpec.post enc prog Tryz.f3 false true false false):=by
 refine returnsInHanded_of_change_and (C:=Tryz.checked) (X:=fun w _=>laidMet prog Rows.recordRunsRow.laid w) (fun _ _ _ hh h=>h.of_heap hh) own started (by kernel_rfl) func3
  (ChangeSpec.witness_at (enc:=enc) (C:=Tryz.checked) (os:=os) (X:=fun w _=>laidMet prog Rows.recordRunsRow.laid w) false (JH os) #[.agg #[.int .u8 0,.slice none 0 0,.slice none 0 0,.slice none 0 0,.slice none 0 0,.int .u8 0],.slice none 0 0] 8 rfl (by kernel_rfl) (by kernel_rfl) (by kernel_rfl) (by kernel_rfl) (by kernel_rfl) (Yg os _)) ?_
 intro W base args ds gs before hval0 hW hcnd _ hL _;have Mp:∀(j:Nat) t v,Tryz.f3.params[j]? = some t→args[j]? = some v→Value.okWide prog W .any base t v:=hval0;have hW':=hW;obtain⟨p,q,hA0,hV,rfl,hfz,ZF⟩:=hW;have hA:DataW.TrodAll enc prog W 0 (fun _=>true) true Tryz.f3.params.toList args.toList ds p:=hA0;rw[params3]at hA Mp;obtain⟨v0,VF,d0,ds0,p0,q0,aoL,rfl,rfl,h0,r0⟩:=trodAll_cons hA;obtain⟨v1,vs1,d1,ds1,p1,q1,aoM,rfl,rfl,h1,r1⟩:=trodAll_cons r0;obtain⟨rfl,rfl,rfl⟩:=trodAll_nil r1;obtain rfl:args = #[v0,v1]:=by cases args;simp_all
 obtain⟨rfl,rfl⟩:=trodVars_none hV;obtain⟨cs0,rfl,aEB⟩:=okWide_struct underlying29 (Mp 0 29 v0 rfl rfl);obtain⟨aAk,hf0⟩:=h0;obtain⟨x0,rs0,k0⟩:=(zJ) hf0;obtain⟨sa1,sn1,sc1,rfl⟩:=okWide_slice underlying30 (Mp 1 30 v1 rfl rfl);obtain⟨aAl,hf1⟩:=h1;obtain⟨x1,rs1,k1⟩:=(tg (α:=Int) (dv:=(DV.int .u64)) (ok:=(fun y=>xU .u64 y)) underlying30 YU (by decide) (fun _=>rfl) (fun _ _ _ h=>(qk underlying48) h)) hf1;have FY:sM (xk W) fc.no [.agg (KA x0),.sl 1 (List.map (DV.int .u64) x1)] [_,_]:=⟨_,_,rfl,Xv rs0,_,_,rfl,aes rs1,rfl⟩;refine(abN (xM.h (Jb (aaQ k0) (agP k1))) (aei hL) FY).mono fun e W' ⟨he,hg⟩=>?_
 subst he;exact⟨_,rfl,Yf (tb:=4) laidOut hW' rfl rfl underlying4 (by rw[params3];intro t ht;simp only[List.mem_cons,List.not_mem_nil,or_false]at ht;rcases ht with rfl|rfl <;> exact⟨by kernel_rfl,by decide +kernel⟩) rfl hg⟩
theorem EN:Rows.RecordRunsSaid :=
 OpenClaim.holds_of_wide 3 Tryz.f3 rfl rfl rfl rfl rfl rfl rfl ⟨rfl,rfl,rfl,rfl,rfl⟩ rfl rfl rfl rfl rfl znm func3 told zin zwr
  (fun os started H enc _=>Eh os started H enc)
theorem recordRunsCard_holds:Rows.RecordRunsCardSaid :=
 Claim7.holds_tied_plain_at .later [] [.data,.data,.data,.data,.data,.data,.data,.data,.data] true (true,"803289d9748d751591d3f5fd9bdaa58050d5186e47523c297b57b089bacb4f00") false
  EN (fun _ h=>by cases h) zwf (fun _ h=>by cases h) recordRuns_row_tie rfl ⟨rfl,rfl⟩ zmn rfl
  (fun f fn hf hfn=>by
   obtain rfl:f=3:=(Option.some.inj (znm.symm.trans hf)).symm
   obtain rfl:fn=Tryz.f3:=(Option.some.inj (func3.symm.trans hfn)).symm
   exact⟨zlk,fun j t ht=>by
    rw[params3]at ht;have hm:t∈[29,30]:=by simpa using Array.mem_of_getElem? ht
    exact(show prog.wantsStandIn t=false by simpa using List.all_eq_true.1 zws t hm)⟩) zgo
end Go.Proofs.YtpeihknododmlaaGreatDoor
