/-
  RecorderBeforeCardSaid: for every input the law RecorderBefore (in any run an event happened before another one exactly if its clock is less; the own entry is the number plus 1) returns true and leaves its arguments as they were. No condition.
-/
import Derived.Test.YtaafmkmdfcgeaaaGreatDoorRBv11
set_option maxHeartbeats 2000000
set_option maxRecDepth 100000
set_option linter.unusedVariables false
set_option linter.unusedSimpArgs false
namespace Go.Proofs.YtaafmkmdfcgeaaaGreatDoor
open Go.Proofs.Tryz
open Go.ChangeShapes Go.WideShapes Go.ChangeAt Go.RowKit
theorem BM:prog.cellsOf 5=1:=bp
theorem Ng:prog.cellsOf 246=4:=bp
theorem Hv:prog.cellsOf 263=2:=bp
theorem Sp:prog.cellsOf 22=1:=bp
def bE.ok(x:bE):Prop:=Aj .u8 x.dY∧(x.qQ.length<=9223372036854775807∧∀y∈x.qQ,Aj .u8 y)
theorem vq{H:Type}{enc:TypeId×Value->H}{w:World}{fuel:Nat}{cs:List Value}{y:DataW H×List MemPlace}(h:DataW.trod enc prog w 0 (λ_=>true) true fuel 263 cs=some y):∃x:bE,fZ (xt w) eD.no (abl x) cs∧bE.ok x:=by
 obtain⟨xs,n,_,_,hlen,zH,hg⟩:=DataW.trod_struct underlying263 h;rw[Hv]at hlen;obtain⟨_,g0⟩:=fy (t:=5) (o:=0) (hg 0 _ rfl) BM zH aV;obtain⟨_,g1⟩:=fy (t:=22) (o:=1) (hg 1 _ rfl) Sp zH aV;obtain⟨x0,r0,k0⟩:=(pR underlying5) g0;obtain⟨x1,r1,k1⟩:=(tV (α:=Int) (dv:=(DV.int .u8)) (ok:=(λy=>Aj .u8 y)) underlying22 BM aV (λ_=>rfl) (λ_ _ _ h=>(pR underlying5) h)) g1;exact⟨⟨x0,x1⟩,fZ.join (off:=0) (n:=1) oL r0 (fZ.join (off:=1) (n:=1) oL r1 (fZ.done (n:=2) hlen)),⟨k0,k1⟩⟩
theorem Nh:prog.cellsOf 244=1:=bp
def bP.ok(x:bP):Prop:=Aj .u8 x.zz∧Aj .u8 x.dh∧(x.bR.length<=9223372036854775807∧∀y∈x.bR,bE.ok y)∧(x.jH.length<=9223372036854775807∧∀y∈x.jH,bE.ok y)
theorem Bz{H:Type}{enc:TypeId×Value->H}{w:World}{fuel:Nat}{cs:List Value}{y:DataW H×List MemPlace}(h:DataW.trod enc prog w 0 (λ_=>true) true fuel 246 cs=some y):∃x:bP,fZ (xt w) eD.no (Ue x) cs∧bP.ok x:=by
 obtain⟨xs,n,_,_,hlen,zH,hg⟩:=DataW.trod_struct underlying246 h;rw[Ng]at hlen;obtain⟨_,g0⟩:=fy (t:=5) (o:=0) (hg 0 _ rfl) BM zH aV;obtain⟨_,g1⟩:=fy (t:=5) (o:=1) (hg 1 _ rfl) BM zH aV;obtain⟨_,g2⟩:=fy (t:=244) (o:=2) (hg 2 _ rfl) Nh zH aV;obtain⟨_,g3⟩:=fy (t:=244) (o:=3) (hg 3 _ rfl) Nh zH aV;obtain⟨x0,r0,k0⟩:=(pR underlying5) g0;obtain⟨x1,r1,k1⟩:=(pR underlying5) g1;obtain⟨x2,r2,k2⟩:=(tV (α:=bE) (dv:=CN) (ok:=(λy=>bE.ok y)) underlying244 Hv aV (λ_=>rfl) (λ_ _ _ h=>(vq) h)) g2;obtain⟨x3,r3,k3⟩:=(tV (α:=bE) (dv:=CN) (ok:=(λy=>bE.ok y)) underlying244 Hv aV (λ_=>rfl) (λ_ _ _ h=>(vq) h)) g3;exact⟨⟨x0,x1,x2,x3⟩,fZ.join (off:=0) (n:=1) oL r0 (fZ.join (off:=1) (n:=1) oL r1 (fZ.join (off:=2) (n:=1) oL r2 (fZ.join (off:=3) (n:=1) oL r3 (fZ.done (n:=4) hlen)))),⟨k0,k1,k2,k3⟩⟩
theorem adz:prog.cellsOf 23=1:=bp
theorem So:prog.cellsOf 25=3:=bp
def dC.ok(x:dC):Prop:=Aj .u8 x.aY∧(x.fJ.length<=9223372036854775807∧∀y∈x.fJ,Aj .u8 y)∧(x.aG.length<=9223372036854775807∧∀y∈x.aG,bP.ok y)
theorem Bx{H:Type}{enc:TypeId×Value->H}{w:World}{fuel:Nat}{cs:List Value}{y:DataW H×List MemPlace}(h:DataW.trod enc prog w 0 (λ_=>true) true fuel 25 cs=some y):∃x:dC,fZ (xt w) eD.no (NI x) cs∧dC.ok x:=by
 obtain⟨xs,n,_,_,hlen,zH,hg⟩:=DataW.trod_struct underlying25 h;rw[So]at hlen;obtain⟨_,g0⟩:=fy (t:=5) (o:=0) (hg 0 _ rfl) BM zH aV;obtain⟨_,g1⟩:=fy (t:=22) (o:=1) (hg 1 _ rfl) Sp zH aV;obtain⟨_,g2⟩:=fy (t:=23) (o:=2) (hg 2 _ rfl) adz zH aV;obtain⟨x0,r0,k0⟩:=(pR underlying5) g0;obtain⟨x1,r1,k1⟩:=(tV (α:=Int) (dv:=(DV.int .u8)) (ok:=(λy=>Aj .u8 y)) underlying22 BM aV (λ_=>rfl) (λ_ _ _ h=>(pR underlying5) h)) g1;obtain⟨x2,r2,k2⟩:=(tV (α:=bP) (dv:=Jq) (ok:=(λy=>bP.ok y)) underlying23 Ng aV (λ_=>rfl) (λ_ _ _ h=>(Bz) h)) g2;exact⟨⟨x0,x1,x2⟩,fZ.join (off:=0) (n:=1) oL r0 (fZ.join (off:=1) (n:=1) oL r1 (fZ.join (off:=2) (n:=1) oL r2 (fZ.done (n:=3) hlen))),⟨k0,k1,k2⟩⟩
theorem Nk:prog.cellsOf 176=7:=bp
theorem aaf:prog.cellsOf 172=1:=bp
theorem wZ:prog.cellsOf 3=1:=bp
theorem Nl:prog.cellsOf 174=4:=bp
def aI.ok(x:aI):Prop:=Aj .u8 x.bC∧Aj .i64 x.gA∧Aj .i64 x.gB∧Aj .i64 x.gN
theorem UO{H:Type}{enc:TypeId×Value->H}{w:World}{fuel:Nat}{cs:List Value}{y:DataW H×List MemPlace}(h:DataW.trod enc prog w 0 (λ_=>true) true fuel 174 cs=some y):∃x:aI,fZ (xt w) eD.no (cU x) cs∧aI.ok x:=by
 obtain⟨xs,n,_,_,hlen,zH,hg⟩:=DataW.trod_struct underlying174 h;rw[Nl]at hlen;obtain⟨_,g0⟩:=fy (t:=172) (o:=0) (hg 0 _ rfl) aaf zH aV;obtain⟨_,g1⟩:=fy (t:=3) (o:=1) (hg 1 _ rfl) wZ zH aV;obtain⟨_,g2⟩:=fy (t:=3) (o:=2) (hg 2 _ rfl) wZ zH aV;obtain⟨_,g3⟩:=fy (t:=3) (o:=3) (hg 3 _ rfl) wZ zH aV;obtain⟨x0,r0,k0⟩:=(pR underlying172) g0;obtain⟨x1,r1,k1⟩:=(pR underlying3) g1;obtain⟨x2,r2,k2⟩:=(pR underlying3) g2;obtain⟨x3,r3,k3⟩:=(pR underlying3) g3;exact⟨⟨x0,x1,x2,x3⟩,fZ.join (off:=0) (n:=1) oL r0 (fZ.join (off:=1) (n:=1) oL r1 (fZ.join (off:=2) (n:=1) oL r2 (fZ.join (off:=3) (n:=1) oL r3 (fZ.done (n:=4) hlen)))),⟨k0,k1,k2,k3⟩⟩
theorem XQ:prog.cellsOf 2=1:=bp
theorem Sn:prog.cellsOf 43=1:=bp
def au.ok(x:au):Prop:=aI.ok x.cQ∧Aj .i64 x.Cl∧Aj .i64 x.gD∧(x.cE.length<=9223372036854775807∧∀y∈x.cE,Aj .i64 y)
theorem Lq{H:Type}{enc:TypeId×Value->H}{w:World}{fuel:Nat}{cs:List Value}{y:DataW H×List MemPlace}(h:DataW.trod enc prog w 0 (λ_=>true) true fuel 176 cs=some y):∃x:au,fZ (xt w) eD.no (yo x) cs∧au.ok x:=by
 obtain⟨xs,n,_,_,hlen,zH,hg⟩:=DataW.trod_struct underlying176 h;rw[Nk]at hlen;obtain⟨_,g0⟩:=fy (t:=174) (o:=0) (hg 0 _ rfl) Nl zH aV;obtain⟨_,g1⟩:=fy (t:=3) (o:=4) (hg 1 _ rfl) wZ zH aV;obtain⟨_,g2⟩:=fy (t:=3) (o:=5) (hg 2 _ rfl) wZ zH aV;obtain⟨_,g3⟩:=fy (t:=43) (o:=6) (hg 3 _ rfl) Sn zH aV;obtain⟨x0,r0,k0⟩:=(UO) g0;obtain⟨x1,r1,k1⟩:=(pR underlying3) g1;obtain⟨x2,r2,k2⟩:=(pR underlying3) g2;obtain⟨x3,r3,k3⟩:=(tV (α:=Int) (dv:=(DV.int .i64)) (ok:=(λy=>Aj .i64 y)) underlying43 XQ aV (λ_=>rfl) (λ_ _ _ h=>(pR underlying2) h)) g3;exact⟨⟨x0,x1,x2,x3⟩,fZ.join (off:=0) (n:=4) oL r0 (fZ.join (off:=4) (n:=1) oL r1 (fZ.join (off:=5) (n:=1) oL r2 (fZ.join (off:=6) (n:=1) oL r3 (fZ.done (n:=7) hlen)))),⟨k0,k1,k2,k3⟩⟩
theorem Nj:prog.cellsOf 181=4:=bp
theorem Sl:prog.cellsOf 89=3:=bp
def bw.ok(x:bw):Prop:=Aj .i64 x.gz∧Aj .i64 x.uJ∧Aj .i64 x.gN
theorem JJ{H:Type}{enc:TypeId×Value->H}{w:World}{fuel:Nat}{cs:List Value}{y:DataW H×List MemPlace}(h:DataW.trod enc prog w 0 (λ_=>true) true fuel 89 cs=some y):∃x:bw,fZ (xt w) eD.no (jJ x) cs∧bw.ok x:=by
 obtain⟨xs,n,_,_,hlen,zH,hg⟩:=DataW.trod_struct underlying89 h;rw[Sl]at hlen;obtain⟨_,g0⟩:=fy (t:=3) (o:=0) (hg 0 _ rfl) wZ zH aV;obtain⟨_,g1⟩:=fy (t:=3) (o:=1) (hg 1 _ rfl) wZ zH aV;obtain⟨_,g2⟩:=fy (t:=3) (o:=2) (hg 2 _ rfl) wZ zH aV;obtain⟨x0,r0,k0⟩:=(pR underlying3) g0;obtain⟨x1,r1,k1⟩:=(pR underlying3) g1;obtain⟨x2,r2,k2⟩:=(pR underlying3) g2;exact⟨⟨x0,x1,x2⟩,fZ.join (off:=0) (n:=1) oL r0 (fZ.join (off:=1) (n:=1) oL r1 (fZ.join (off:=2) (n:=1) oL r2 (fZ.done (n:=3) hlen))),⟨k0,k1,k2⟩⟩
theorem Ni:prog.cellsOf 183=3:=bp
def cm.ok(x:cm):Prop:=Aj .i64 x.Cl∧Aj .i64 x.bU∧(x.cE.length<=9223372036854775807∧∀y∈x.cE,Aj .i64 y)
theorem JK{H:Type}{enc:TypeId×Value->H}{w:World}{fuel:Nat}{cs:List Value}{y:DataW H×List MemPlace}(h:DataW.trod enc prog w 0 (λ_=>true) true fuel 183 cs=some y):∃x:cm,fZ (xt w) eD.no (NL x) cs∧cm.ok x:=by
 obtain⟨xs,n,_,_,hlen,zH,hg⟩:=DataW.trod_struct underlying183 h;rw[Ni]at hlen;obtain⟨_,g0⟩:=fy (t:=3) (o:=0) (hg 0 _ rfl) wZ zH aV;obtain⟨_,g1⟩:=fy (t:=3) (o:=1) (hg 1 _ rfl) wZ zH aV;obtain⟨_,g2⟩:=fy (t:=43) (o:=2) (hg 2 _ rfl) Sn zH aV;obtain⟨x0,r0,k0⟩:=(pR underlying3) g0;obtain⟨x1,r1,k1⟩:=(pR underlying3) g1;obtain⟨x2,r2,k2⟩:=(tV (α:=Int) (dv:=(DV.int .i64)) (ok:=(λy=>Aj .i64 y)) underlying43 XQ aV (λ_=>rfl) (λ_ _ _ h=>(pR underlying2) h)) g2;exact⟨⟨x0,x1,x2⟩,fZ.join (off:=0) (n:=1) oL r0 (fZ.join (off:=1) (n:=1) oL r1 (fZ.join (off:=2) (n:=1) oL r2 (fZ.done (n:=3) hlen))),⟨k0,k1,k2⟩⟩
theorem aae:prog.cellsOf 179=1:=bp
def aZ.ok(x:aZ):Prop:=bw.ok x.cA∧(x.gP.length<=9223372036854775807∧∀y∈x.gP,cm.ok y)
theorem Ry{H:Type}{enc:TypeId×Value->H}{w:World}{fuel:Nat}{cs:List Value}{y:DataW H×List MemPlace}(h:DataW.trod enc prog w 0 (λ_=>true) true fuel 181 cs=some y):∃x:aZ,fZ (xt w) eD.no (NR x) cs∧aZ.ok x:=by
 obtain⟨xs,n,_,_,hlen,zH,hg⟩:=DataW.trod_struct underlying181 h;rw[Nj]at hlen;obtain⟨_,g0⟩:=fy (t:=89) (o:=0) (hg 0 _ rfl) Sl zH aV;obtain⟨_,g1⟩:=fy (t:=179) (o:=3) (hg 1 _ rfl) aae zH aV;obtain⟨x0,r0,k0⟩:=(JJ) g0;obtain⟨x1,r1,k1⟩:=(tV (α:=cm) (dv:=xC) (ok:=(λy=>cm.ok y)) underlying179 Ni aV (λ_=>rfl) (λ_ _ _ h=>(JK) h)) g1;exact⟨⟨x0,x1⟩,fZ.join (off:=0) (n:=3) oL r0 (fZ.join (off:=3) (n:=1) oL r1 (fZ.done (n:=4) hlen)),⟨k0,k1⟩⟩
theorem ady:prog.cellsOf 26=1:=bp
theorem adx:prog.cellsOf 27=1:=bp
theorem adw:prog.cellsOf 29=6:=bp
def de.ok(x:de):Prop:=dC.ok x.MJ∧(x.iM.length<=9223372036854775807∧∀y∈x.iM,au.ok y)∧(x.oT.length<=9223372036854775807∧∀y∈x.oT,aZ.ok y)∧Aj .u8 x.lB
theorem AE{H:Type}{enc:TypeId×Value->H}{w:World}{fuel:Nat}{cs:List Value}{y:DataW H×List MemPlace}(h:DataW.trod enc prog w 0 (λ_=>true) true fuel 29 cs=some y):∃x:de,fZ (xt w) eD.no (Jp x) cs∧de.ok x:=by
 obtain⟨xs,n,_,_,hlen,zH,hg⟩:=DataW.trod_struct underlying29 h;rw[adw]at hlen;obtain⟨_,g0⟩:=fy (t:=25) (o:=0) (hg 0 _ rfl) So zH aV;obtain⟨_,g1⟩:=fy (t:=26) (o:=3) (hg 1 _ rfl) ady zH aV;obtain⟨_,g2⟩:=fy (t:=27) (o:=4) (hg 2 _ rfl) adx zH aV;obtain⟨_,g3⟩:=fy (t:=5) (o:=5) (hg 3 _ rfl) BM zH aV;obtain⟨x0,r0,k0⟩:=(Bx) g0;obtain⟨x1,r1,k1⟩:=(tV (α:=au) (dv:=df) (ok:=(λy=>au.ok y)) underlying26 Nk aV (λ_=>rfl) (λ_ _ _ h=>(Lq) h)) g1;obtain⟨x2,r2,k2⟩:=(tV (α:=aZ) (dv:=du) (ok:=(λy=>aZ.ok y)) underlying27 Nj aV (λ_=>rfl) (λ_ _ _ h=>(Ry) h)) g2;obtain⟨x3,r3,k3⟩:=(pR underlying5) g3;exact⟨⟨x0,x1,x2,x3⟩,fZ.join (off:=0) (n:=3) oL r0 (fZ.join (off:=3) (n:=1) oL r1 (fZ.join (off:=4) (n:=1) oL r2 (fZ.join (off:=5) (n:=1) oL r3 (fZ.done (n:=6) hlen)))),⟨k0,k1,k2,k3⟩⟩
theorem aj7{W:World}(h:laidMet prog Rows.recorderBeforeRow.laid W):Tbs (xt W):=by
 obtain⟨ps,h,_,_⟩:=h;exact RK Rows.recorderBeforeRow.laid Ie ps aj6 aj8 h
theorem codeOk{x:bE}(h:bE.ok x):Al x:=by
 obtain⟨h1,h2,h3⟩:=h;simp only[Aj]at h1 h3;exact⟨ah,ah,h2,λb hb=>by have:=h3 b hb;omega⟩
theorem akn{x:bP}(h:bP.ok x):PO x:=by
 obtain⟨h1,h2,h3,h4⟩:=h;simp only[Aj]at h1 h2;exact⟨ah,ah,ah,ah,λc hc=>codeOk (h3.2 c hc),λc hc=>codeOk (h4.2 c hc)⟩
theorem akk{x:dC}(h:dC.ok x):PN x:=by
 obtain⟨h1,h2,h3⟩:=h;simp only[Aj]at h1 h2;exact⟨ah,ah,λb hb=>by have:=h2.2 b hb;omega,λp hp=>akn (h3.2 p hp)⟩
theorem chD{x:au}(h:au.ok x):ChD x:=by
 obtain⟨⟨h1,h2,h3,h4⟩,h5,h6,h7,h8⟩:=h;simp only[Aj]at h1;exact⟨ah,ah,h2,h3,h4,h5,h6,λy hy=>h8 y hy⟩
theorem hdD{x:aZ}(h:aZ.ok x):HdD x:=by
 obtain⟨⟨h1,h2,h3⟩,h4,h5⟩:=h;exact⟨h1,h2,h3,λa ha=>⟨(h5 a ha).1,(h5 a ha).2.1,λy hy=>(h5 a ha).2.2.2 y hy⟩⟩
theorem agx{x:de}(h:de.ok x):Jh x:=by
 obtain⟨h1,h2,h3,h4⟩:=h;simp only[Aj]at h4;exact⟨akk h1,h2.1,λc hc=>chD (h2.2 c hc),h3.1,λc hc=>hdD (h3.2 c hc),ah,ah⟩
theorem CA(os:Os)(started:os.Started)(H:Type)(enc:TypeId×Value->H) :
  ReturnsInHanded {} Tryz.checked os 3 .any (λw args=>(Rows.recorderBeforeSpec.pre enc prog Tryz.f3 Rows.recorderBeforeRow.domain false w args∧laidMet prog Rows.recorderBeforeRow.laid w)∧sizedMet enc prog Tryz.f3 (OpenSpec.ofChange Rows.recorderBeforeSpec) false w args) (Rows.recorderBeforeSpec.post enc prog Tryz.f3 false true false false):=by
 refine returnsInHanded_of_change_and (C:=Tryz.checked) (X:=λw _=>laidMet prog Rows.recorderBeforeRow.laid w) (λ_ _ _ hh h=>h.of_heap hh) own started bp func3
  (ChangeSpec.witness_at (enc:=enc) (C:=Tryz.checked) (os:=os) (X:=λw _=>laidMet prog Rows.recorderBeforeRow.laid w) false (MD os) #[.agg #[.int .u8 0,.slice none 0 0,.slice none 0 0,.slice none 0 0,.slice none 0 0,.int .u8 0]] 8 rfl bp bp bp bp bp (acL os _)) ?_
 intro W base args ds gs before hval0 hW hcnd _ hL _;have Ta:∀(j:Nat) t v,Tryz.f3.params[j]? = some t->args[j]? = some v->Value.okWide prog W .any base t v:=hval0;have hW':=hW;obtain⟨p,q,hA0,hV,rfl,hfz,hnd⟩:=hW;have hA:DataW.TrodAll enc prog W 0 (λ_=>true) true Tryz.f3.params.toList args.toList ds p:=hA0;rw[params3]at hA Ta;obtain⟨v0,KZ,d0,ds0,p0,q0,au9,rfl,rfl,h0,r0⟩:=trodAll_cons hA;obtain⟨rfl,rfl,rfl⟩:=trodAll_nil r0;obtain rfl:args = #[v0]:=by cases args;simp_all
 obtain⟨rfl,rfl⟩:=trodVars_none hV;obtain⟨cs0,rfl,aLI⟩:=okWide_struct underlying29 (Ta 0 29 v0 rfl rfl);obtain⟨aG1,hf0⟩:=h0;obtain⟨x0,rs0,k0⟩:=(AE) hf0;have Fx:tQ (xt W) eD.no [.agg (Jp x0)] [_]:=⟨_,_,rfl,ab9 rs0,rfl⟩;refine(ahv (vQ.h (aaA (agx k0))) (aj7 hL) Fx).mono λe W' ⟨he,hg⟩=>?_
 subst he;exact⟨_,rfl,acK (tb:=4) laidOut hW' rfl rfl underlying4 (by rw[params3];intro t ht;simp only[List.mem_cons,List.not_mem_nil,or_false]at ht;rcases ht with rfl <;> exact⟨bp,Vx⟩) rfl hg⟩
theorem Dh:Rows.RecorderBeforeSaid :=
 OpenClaim.holds_of_wide 3 Tryz.f3 rfl rfl rfl rfl rfl rfl rfl ⟨rfl,rfl,rfl,rfl,rfl⟩ rfl rfl rfl rfl rfl Kk func3 told ZO ZM
  (λos started H enc _=>CA os started H enc)
theorem recorderBeforeCard_holds:Rows.RecorderBeforeCardSaid :=
 Claim7.holds_tied_plain_at .later [] [.data,.data,.data,.data,.data,.data,.data,.data,.data] true (true,"75d96733420d3a248248273548854768cead030507bf9e2d4a57c2c91043e91a") false
  Dh (λ_ h=>dI) ahK (λ_ h=>dI) recorderBefore_row_tie rfl ⟨rfl,rfl⟩ ZN rfl
  (λf fn hf hfn=>by
   obtain rfl:f=3:=(Option.some.inj (Kk.symm.trans hf)).symm;obtain rfl:fn=Tryz.f3:=(Option.some.inj (func3.symm.trans hfn)).symm
   exact⟨Vp,λj t ht=>by
    rw[params3]at ht;have hm:t∈[29]:=by simpa using Array.mem_of_getElem? ht
    exact(show prog.wantsStandIn t=false by simpa using List.all_eq_true.1 Vo t hm)⟩)
  ZP
end Go.Proofs.YtaafmkmdfcgeaaaGreatDoor
