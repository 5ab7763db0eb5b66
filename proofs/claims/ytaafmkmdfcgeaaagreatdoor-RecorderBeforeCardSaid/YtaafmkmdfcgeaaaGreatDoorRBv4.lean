/- Part 4 of what the claim leans on. -/
import Derived.Test.YtaafmkmdfcgeaaaGreatDoorRBv3
set_option maxRecDepth 100000
set_option maxHeartbeats 4000000
set_option linter.unusedVariables false
set_option linter.unusedSimpArgs false
noncomputable section
namespace Go.Proofs.YtaafmkmdfcgeaaaGreatDoor
open Go.Proofs.Tryz
open Go.RowKit
attribute [local irreducible] gL dH br gY jP dK fC kY
structure cS where
 nS:Int
 aN:Int
 lW:Int
 gN:Int
 lX:Int
 bU:Int
 cE:List Int
def EL(x:cS):List DV:=[.int .u8 x.nS,.int .i64 x.aN,.int .i64 x.lW,.int .i64 x.gN,.int .i64 x.lX,.int .i64 x.bU,.sl 1 (List.map (DV.int .i64) x.cE)]
def NM(x:cS):DV:=.agg (EL x)
structure aD where
 Xv:Int
 oX:cS
def Bc(x:aD):List DV:=[.int .i64 x.Xv,.int .u8 x.oX.nS,.int .i64 x.oX.aN,.int .i64 x.oX.lW,.int .i64 x.oX.gN,.int .i64 x.oX.lX,.int .i64 x.oX.bU,.sl 1 (List.map (DV.int .i64) x.oX.cE)]
def dG(x:aD):DV:=.agg (Bc x)
structure aC where
 cZ:Int
 gA:Int
 gB:Int
 gN:Int
def CU(x:aC):List DV:=[.int .u8 x.cZ,.int .i64 x.gA,.int .i64 x.gB,.int .i64 x.gN]
def fx(x:aC):DV:=.agg (CU x)
structure cL where
 dY:Int
 Vj:Int
 ri:List aC
def EM(x:cL):List DV:=[.int .i64 x.dY,.int .i64 x.Vj,.sl 4 (List.map fx x.ri)]
def sD(x:cL):DV:=.agg (EM x)
structure cy where
 akN:Int
 Pc:Int
def abp(x:cy):List DV:=[.int .i64 x.akN,.int .i64 x.Pc]
def ur(x:cy):DV:=.agg (abp x)
structure aQ where
 ba:List cy
def CS(x:aQ):List DV:=[.sl 2 (List.map ur x.ba)]
def iU(x:aQ):DV:=.agg (CS x)
structure cv where
 bx:ByteArray
 uK:Bool
def Uh(x:cv):List DV:=[.str x.bx,.bool x.uK]
def lZ(x:cv):DV:=.agg (Uh x)
structure cB where
 gz:ByteArray
 uJ:ByteArray
 pW:Int
def CT(x:cB):List DV:=[.str x.gz,.str x.uJ,.int .i64 x.pW]
def pE(x:cB):DV:=.agg (CT x)
structure dA where
 bx:ByteArray
 sQ:Int
 uK:Int
def NN(x:dA):List DV:=[.str x.bx,.int .u8 x.sQ,.int .i64 x.uK]
def xD(x:dA):DV:=.agg (NN x)
structure bG where
 bx:ByteArray
 dY:List ByteArray
 uM:List DV
def Bb(x:bG):List DV:=[.str x.bx,.sl 1 (List.map DV.str x.dY),.sl 6 (List.map lg x.uM)]
def CQ(x:bG):DV:=.agg (Bb x)
structure bS where
 bR:List bG
def NJ(x:bS):List DV:=[.sl 3 (List.map CQ x.bR)]
def wi(x:bS):DV:=.agg (NJ x)
structure aO where
 bx:ByteArray
 eG:List dA
 bf:List bS
def zN(x:aO):List DV:=[.str x.bx,.sl 3 (List.map xD x.eG),.sl 1 (List.map wi x.bf)]
def nr(x:aO):DV:=.agg (zN x)
structure bu where
 bx:ByteArray
 aY:List cv
 fJ:List cB
 aG:List aO
def tF(x:bu):List DV:=[.str x.bx,.sl 2 (List.map lZ x.aY),.sl 3 (List.map pE x.fJ),.sl 3 (List.map nr x.aG)]
structure aB where
 cZ:Int
 bx:ByteArray
 gN:Int
 cE:List DV
def jQ(x:aB):List DV:=[.int .u8 x.cZ,.str x.bx,.int .i64 x.gN,.sl 4 (List.map lg x.cE)]
def wj(x:aB):DV:=.agg (jQ x)
def aB.dec:DV->Option aB
 |.agg [.int .u8 a0,.str a1,.int .i64 a2,.sl 4 a3]=>some ⟨a0,a1,a2,a3⟩
 |_=>none
theorem aB.Fo{d:DV}{x:aB}(h:aB.dec d=some x):d=wj x:=by
 unfold aB.dec at h
 split at h
 .injection h with h;subst h;simp[wj,jQ,xV]
 .cases h
instance:DC aB.dec wj:=⟨aB.Fo⟩
theorem CP(x:aB):aB.dec (wj x)=some x:=by simp[aB.dec,wj,jQ,xV]
structure bo where
 bC:Int
 bx:ByteArray
 bU:ByteArray
 js:List DV
 vZ:List DV
 uL:List DV
def sB(x:bo):List DV:=[.int .u8 x.bC,.str x.bx,.str x.bU,.sl 4 (List.map lg x.js),.sl 6 (List.map lg x.vZ),.sl 6 (List.map lg x.uL)]
def zP(x:bo):DV:=.agg (sB x)
def bo.dec:DV->Option bo
 |.agg [.int .u8 a0,.str a1,.str a2,.sl 4 a3,.sl 6 a4,.sl 6 a5]=>some ⟨a0,a1,a2,a3,a4,a5⟩
 |_=>none
theorem bo.Fo{d:DV}{x:bo}(h:bo.dec d=some x):d=zP x:=by
 unfold bo.dec at h
 split at h
 .injection h with h;subst h;simp[zP,sB,xV]
 .cases h
instance:DC bo.dec zP:=⟨bo.Fo⟩
theorem zO(x:bo):bo.dec (zP x)=some x:=by simp[bo.dec,zP,sB,xV]
structure aI where
 bC:Int
 gA:Int
 gB:Int
 gN:Int
def cU(x:aI):List DV:=[.int .u8 x.bC,.int .i64 x.gA,.int .i64 x.gB,.int .i64 x.gN]
def mb(x:aI):DV:=.agg (cU x)
structure au where
 cQ:aI
 Cl:Int
 gD:Int
 cE:List Int
def yo(x:au):List DV:=[.int .u8 x.cQ.bC,.int .i64 x.cQ.gA,.int .i64 x.cQ.gB,.int .i64 x.cQ.gN,.int .i64 x.Cl,.int .i64 x.gD,.sl 1 (List.map (DV.int .i64) x.cE)]
def df(x:au):DV:=.agg (yo x)
structure bw where
 gz:Int
 uJ:Int
 gN:Int
def jJ(x:bw):List DV:=[.int .i64 x.gz,.int .i64 x.uJ,.int .i64 x.gN]
def bw.dv(x:bw):DV:=.agg (jJ x)
structure cm where
 Cl:Int
 bU:Int
 cE:List Int
def NL(x:cm):List DV:=[.int .i64 x.Cl,.int .i64 x.bU,.sl 1 (List.map (DV.int .i64) x.cE)]
def xC(x:cm):DV:=.agg (NL x)
structure aZ where
 cA:bw
 gP:List cm
def NR(x:aZ):List DV:=[.int .i64 x.cA.gz,.int .i64 x.cA.uJ,.int .i64 x.cA.gN,.sl 3 (List.map xC x.gP)]
def du(x:aZ):DV:=.agg (NR x)
def iI(x0:List ByteArray):Option (List ByteArray):=Hu (dK 16 (List.length ([]:List ByteArray)+List.length x0)) (some (([]:List ByteArray)++x0))
theorem xG{x0:List ByteArray}{r:List ByteArray}(hM:iI x0=some r):gY prog 319 ⟨[.sl 1 (List.map DV.str x0)],[],.row 5000,[(5000,some (.row 9 1 (List.map DV.str r)))],[5000]⟩:=by
 unfold iI at hM;obtain⟨h,hM⟩:=mP hM;obtain rfl:=Option.some.inj hM;refine gY.body func319 ntmps319 rfl rfl rfl rfl ?_;refine fK ?_;refine dV (.cons (eY rfl)<|.nil _) bp bp ?_;refine fK ?_;refine fK ?_;refine Gv rfl aV aV (λb hb=>?_);refine qc _ rfl (λc=>?_) (λc=>?_)
 .have h0:x0 = []:=List.map_eq_nil_iff.1 (hb c)
  subst h0;refine fK ?_;refine dV (.cons (eY rfl)<|.nil _) bp bp ?_;refine sy (yp (t:=2) (id:=5000) 9 1 rfl rfl) ?_;exact sX (oU (.r1 (.tmp rfl)) (iy.refl _) (kE.spec (.cons rfl .nil)))
 .refine sW ?_
  refine fK ?_;refine dV (.cons (uU DV.str ([]:List ByteArray) rfl rfl rfl rfl rfl rfl rfl)<|.cons (fU rfl)<|.cons (pL x0 h rfl rfl rfl Src.sl)<|.cons (eY rfl)<|.nil _) bp bp ?_;refine sy (σ':=⟨[(2,.row 5000)],[(5000,some (.row 9 1 (List.map DV.str (([]:List ByteArray)++x0))))],[5000]⟩) (jP.of (λi=>bif Nat.beq i 5000 then 7 else i) (.cons rfl (iy.refl _) .nil) (.cons rfl (.refl _) .nil) rfl rfl rfl) ?_;exact sX (oU (.r1 (.tmp rfl)) (iy.refl _) (kE.spec (.cons rfl .nil)))
instance {x0}:MA (iI x0) prog 319 (λ_=>1) (λr=>⟨[.sl 1 (List.map DV.str x0)],[],.row 5000,[(5000,some (.row 9 1 (List.map DV.str r)))],[5000]⟩):=⟨xG⟩
def fI(x0:List aC):Option (List aC):=Hu (dK 32 (List.length ([]:List aC)+List.length x0)) (some (([]:List aC)++x0))
theorem tI{x0:List aC}{r:List aC}(hM:fI x0=some r):gY prog 262 ⟨[.sl 4 (List.map fx x0)],[],.row 5000,[(5000,some (.row 421 4 (List.map fx r)))],[5000]⟩:=by
 unfold fI at hM;obtain⟨h,hM⟩:=mP hM;obtain rfl:=Option.some.inj hM;refine gY.body func262 ntmps262 rfl rfl rfl rfl ?_;refine fK ?_;refine dV (.cons (eY rfl)<|.nil _) bp bp ?_;refine fK ?_;refine fK ?_;refine Gv rfl aV aV (λb hb=>?_);refine qc _ rfl (λc=>?_) (λc=>?_)
 .have h0:x0 = []:=List.map_eq_nil_iff.1 (hb c)
  subst h0;refine fK ?_;refine dV (.cons (eY rfl)<|.nil _) bp bp ?_;refine sy (yp (t:=2) (id:=5000) 421 4 rfl rfl) ?_;exact sX (oU (.r1 (.tmp rfl)) (iy.refl _) (kE.spec (.cons rfl .nil)))
 .refine sW ?_
  refine fK ?_;refine dV (.cons (uU fx ([]:List aC) rfl rfl rfl rfl rfl rfl rfl)<|.cons (fU rfl)<|.cons (pL x0 h rfl rfl rfl Src.sl)<|.cons (eY rfl)<|.nil _) bp bp ?_;refine sy (σ':=⟨[(2,.row 5000)],[(5000,some (.row 421 4 (List.map fx (([]:List aC)++x0))))],[5000]⟩) (jP.of (λi=>bif Nat.beq i 5000 then 7 else i) (.cons rfl (iy.refl _) .nil) (.cons rfl (.refl _) .nil) rfl rfl rfl) ?_;exact sX (oU (.r1 (.tmp rfl)) (iy.refl _) (kE.spec (.cons rfl .nil)))
instance {x0}:MA (fI x0) prog 262 (λ_=>1) (λr=>⟨[.sl 4 (List.map fx x0)],[],.row 5000,[(5000,some (.row 421 4 (List.map fx r)))],[5000]⟩):=⟨tI⟩
def fc(x0:List cL):Option (List cL):=Hu (dK 40 (List.length ([]:List cL)+List.length x0)) (some (([]:List cL)++x0))
theorem tH{x0:List cL}{r:List cL}(hM:fc x0=some r):gY prog 231 ⟨[.row 9000],[(9000,some (.row 327 3 (List.map sD x0)))],.row 5000,[(5000,some (.row 327 3 (List.map sD r))),(9000,some (.row 327 3 (List.map sD x0)))],[5000]⟩:=by
 unfold fc at hM;obtain⟨h,hM⟩:=mP hM;obtain rfl:=Option.some.inj hM;refine gY.body func231 ntmps231 rfl rfl rfl rfl ?_;refine fK ?_;refine dV (.cons (eY rfl)<|.nil _) bp bp ?_;refine fK ?_;refine fK ?_;refine Nz rfl rfl aV aV (λb hb=>?_);refine qc _ rfl (λc=>?_) (λc=>?_)
 .have h0:x0 = []:=List.map_eq_nil_iff.1 (hb c)
  subst h0;refine fK ?_;refine dV (.cons (eY rfl)<|.nil _) bp bp ?_;refine sy (yp (t:=2) (id:=5000) 327 3 rfl rfl) ?_;exact sX (oU (.r1 (.tmp rfl)) (iy.refl _) (kE.spec (.cons rfl (.cons rfl .nil))))
 .refine sW ?_
  refine fK ?_;refine dV (.cons (uU sD ([]:List cL) rfl rfl rfl rfl rfl rfl rfl)<|.cons (fU rfl)<|.cons (pL x0 h rfl rfl rfl (Src.row rfl))<|.cons (eY rfl)<|.nil _) bp bp ?_;refine sy (σ':=⟨[(2,.row 5000)],[(5000,some (.row 327 3 (List.map sD (([]:List cL)++x0)))),(9000,some (.row 327 3 (List.map sD x0)))],[5000,9000]⟩) (jP.of (λi=>bif Nat.beq i 5000 then 7 else i) (.cons rfl (iy.refl _) .nil) (.cons rfl (.refl _) (.cons rfl (.refl _) .nil)) rfl rfl rfl) ?_;exact sX (oU (.r1 (.tmp rfl)) (iy.refl _) (kE.spec (.cons rfl (.cons rfl .nil))))
instance {x0}:MA (fc x0) prog 231 (λ_=>1) (λr=>⟨[.row 9000],[(9000,some (.row 327 3 (List.map sD x0)))],.row 5000,[(5000,some (.row 327 3 (List.map sD r))),(9000,some (.row 327 3 (List.map sD x0)))],[5000]⟩):=⟨tH⟩
def ia(x0:List Bool):Option (List Bool):=Hu (dK 1 (List.length ([]:List Bool)+List.length x0)) (some (([]:List Bool)++x0))
theorem yz{x0:List Bool}{r:List Bool}(hM:ia x0=some r):gY prog 232 ⟨[.row 9000],[(9000,some (.row 4 1 (List.map DV.bool x0)))],.row 5000,[(5000,some (.row 4 1 (List.map DV.bool r))),(9000,some (.row 4 1 (List.map DV.bool x0)))],[5000]⟩:=by
 unfold ia at hM;obtain⟨h,hM⟩:=mP hM;obtain rfl:=Option.some.inj hM;refine gY.body func232 ntmps232 rfl rfl rfl rfl ?_;refine fK ?_;refine dV (.cons (eY rfl)<|.nil _) bp bp ?_;refine fK ?_;refine fK ?_;refine Nz rfl rfl aV aV (λb hb=>?_);refine qc _ rfl (λc=>?_) (λc=>?_)
 .have h0:x0 = []:=List.map_eq_nil_iff.1 (hb c)
  subst h0;refine fK ?_;refine dV (.cons (eY rfl)<|.nil _) bp bp ?_;refine sy (yp (t:=2) (id:=5000) 4 1 rfl rfl) ?_;exact sX (oU (.r1 (.tmp rfl)) (iy.refl _) (kE.spec (.cons rfl (.cons rfl .nil))))
 .refine sW ?_
  refine fK ?_;refine dV (.cons (uU DV.bool ([]:List Bool) rfl rfl rfl rfl rfl rfl rfl)<|.cons (fU rfl)<|.cons (pL x0 h rfl rfl rfl (Src.row rfl))<|.cons (eY rfl)<|.nil _) bp bp ?_;refine sy (σ':=⟨[(2,.row 5000)],[(5000,some (.row 4 1 (List.map DV.bool (([]:List Bool)++x0)))),(9000,some (.row 4 1 (List.map DV.bool x0)))],[5000,9000]⟩) (jP.of (λi=>bif Nat.beq i 5000 then 7 else i) (.cons rfl (iy.refl _) .nil) (.cons rfl (.refl _) (.cons rfl (.refl _) .nil)) rfl rfl rfl) ?_;exact sX (oU (.r1 (.tmp rfl)) (iy.refl _) (kE.spec (.cons rfl (.cons rfl .nil))))
instance {x0}:MA (ia x0) prog 232 (λ_=>1) (λr=>⟨[.row 9000],[(9000,some (.row 4 1 (List.map DV.bool x0)))],.row 5000,[(5000,some (.row 4 1 (List.map DV.bool r))),(9000,some (.row 4 1 (List.map DV.bool x0)))],[5000]⟩):=⟨yz⟩
def hD(x0:List Int):Option (List Int):=Hu (dK 8 (List.length ([]:List Int)+List.length x0)) (some (([]:List Int)++x0))
theorem yy{x0:List Int}{r:List Int}(hM:hD x0=some r):gY prog 206 ⟨[.sl 1 (List.map (DV.int .i64) x0)],[],.row 5000,[(5000,some (.row 2 1 (List.map (DV.int .i64) r)))],[5000]⟩:=by
 unfold hD at hM;obtain⟨h,hM⟩:=mP hM;obtain rfl:=Option.some.inj hM;refine gY.body func206 ntmps206 rfl rfl rfl rfl ?_;refine fK ?_;refine dV (.cons (eY rfl)<|.nil _) bp bp ?_;refine fK ?_;refine fK ?_;refine Gv rfl aV aV (λb hb=>?_);refine qc _ rfl (λc=>?_) (λc=>?_)
 .have h0:x0 = []:=List.map_eq_nil_iff.1 (hb c)
  subst h0;refine fK ?_;refine dV (.cons (eY rfl)<|.nil _) bp bp ?_;refine sy (yp (t:=2) (id:=5000) 2 1 rfl rfl) ?_;exact sX (oU (.r1 (.tmp rfl)) (iy.refl _) (kE.spec (.cons rfl .nil)))
 .refine sW ?_
  refine fK ?_;refine dV (.cons (uU (DV.int .i64) ([]:List Int) rfl rfl rfl rfl rfl rfl rfl)<|.cons (fU rfl)<|.cons (pL x0 h rfl rfl rfl Src.sl)<|.cons (eY rfl)<|.nil _) bp bp ?_;refine sy (σ':=⟨[(2,.row 5000)],[(5000,some (.row 2 1 (List.map (DV.int .i64) (([]:List Int)++x0))))],[5000]⟩) (jP.of (λi=>bif Nat.beq i 5000 then 7 else i) (.cons rfl (iy.refl _) .nil) (.cons rfl (.refl _) .nil) rfl rfl rfl) ?_;exact sX (oU (.r1 (.tmp rfl)) (iy.refl _) (kE.spec (.cons rfl .nil)))
instance {x0}:MA (hD x0) prog 206 (λ_=>1) (λr=>⟨[.sl 1 (List.map (DV.int .i64) x0)],[],.row 5000,[(5000,some (.row 2 1 (List.map (DV.int .i64) r)))],[5000]⟩):=⟨yy⟩
def jx(x0:List Int):Option (List Int):=Hu (dK 8 (List.length ([]:List Int)+List.length x0)) (some (([]:List Int)++x0))
theorem Br{x0:List Int}{r:List Int}(hM:jx x0=some r):gY prog 204 ⟨[.sl 1 (List.map (DV.int .i64) x0)],[],.row 5000,[(5000,some (.row 3 1 (List.map (DV.int .i64) r)))],[5000]⟩:=by
 unfold jx at hM;obtain⟨h,hM⟩:=mP hM;obtain rfl:=Option.some.inj hM;refine gY.body func204 ntmps204 rfl rfl rfl rfl ?_;refine fK ?_;refine dV (.cons (eY rfl)<|.nil _) bp bp ?_;refine fK ?_;refine fK ?_;refine Gv rfl aV aV (λb hb=>?_);refine qc _ rfl (λc=>?_) (λc=>?_)
 .have h0:x0 = []:=List.map_eq_nil_iff.1 (hb c)
  subst h0;refine fK ?_;refine dV (.cons (eY rfl)<|.nil _) bp bp ?_;refine sy (yp (t:=2) (id:=5000) 3 1 rfl rfl) ?_;exact sX (oU (.r1 (.tmp rfl)) (iy.refl _) (kE.spec (.cons rfl .nil)))
 .refine sW ?_
  refine fK ?_;refine dV (.cons (uU (DV.int .i64) ([]:List Int) rfl rfl rfl rfl rfl rfl rfl)<|.cons (fU rfl)<|.cons (pL x0 h rfl rfl rfl Src.sl)<|.cons (eY rfl)<|.nil _) bp bp ?_;refine sy (σ':=⟨[(2,.row 5000)],[(5000,some (.row 3 1 (List.map (DV.int .i64) (([]:List Int)++x0))))],[5000]⟩) (jP.of (λi=>bif Nat.beq i 5000 then 7 else i) (.cons rfl (iy.refl _) .nil) (.cons rfl (.refl _) .nil) rfl rfl rfl) ?_;exact sX (oU (.r1 (.tmp rfl)) (iy.refl _) (kE.spec (.cons rfl .nil)))
instance {x0}:MA (jx x0) prog 204 (λ_=>1) (λr=>⟨[.sl 1 (List.map (DV.int .i64) x0)],[],.row 5000,[(5000,some (.row 3 1 (List.map (DV.int .i64) r)))],[5000]⟩):=⟨Br⟩
def eU(x0:List aQ):Option (List aQ):=Hu (dK 24 (List.length ([]:List aQ)+List.length x0)) (some (([]:List aQ)++x0))
theorem sI{x0:List aQ}{r:List aQ}(hM:eU x0=some r):gY prog 207 ⟨[.sl 1 (List.map iU x0)],[],.row 5000,[(5000,some (.row 199 1 (List.map iU r)))],[5000]⟩:=by
 unfold eU at hM;obtain⟨h,hM⟩:=mP hM;obtain rfl:=Option.some.inj hM;refine gY.body func207 ntmps207 rfl rfl rfl rfl ?_;refine fK ?_;refine dV (.cons (eY rfl)<|.nil _) bp bp ?_;refine fK ?_;refine fK ?_;refine Gv rfl aV aV (λb hb=>?_);refine qc _ rfl (λc=>?_) (λc=>?_)
 .have h0:x0 = []:=List.map_eq_nil_iff.1 (hb c)
  subst h0;refine fK ?_;refine dV (.cons (eY rfl)<|.nil _) bp bp ?_;refine sy (yp (t:=2) (id:=5000) 199 1 rfl rfl) ?_;exact sX (oU (.r1 (.tmp rfl)) (iy.refl _) (kE.spec (.cons rfl .nil)))
 .refine sW ?_
  refine fK ?_;refine dV (.cons (uU iU ([]:List aQ) rfl rfl rfl rfl rfl rfl rfl)<|.cons (fU rfl)<|.cons (pL x0 h rfl rfl rfl Src.sl)<|.cons (eY rfl)<|.nil _) bp bp ?_;refine sy (σ':=⟨[(2,.row 5000)],[(5000,some (.row 199 1 (List.map iU (([]:List aQ)++x0))))],[5000]⟩) (jP.of (λi=>bif Nat.beq i 5000 then 7 else i) (.cons rfl (iy.refl _) .nil) (.cons rfl (.refl _) .nil) rfl rfl rfl) ?_;exact sX (oU (.r1 (.tmp rfl)) (iy.refl _) (kE.spec (.cons rfl .nil)))
instance {x0}:MA (eU x0) prog 207 (λ_=>1) (λr=>⟨[.sl 1 (List.map iU x0)],[],.row 5000,[(5000,some (.row 199 1 (List.map iU r)))],[5000]⟩):=⟨sI⟩
def iJ(l n:Nat)(x0:List Int):Option (List Int):=Hu (l+n<=List.length x0∧dK 8 (List.length ([]:List Int)+List.length ((x0.drop l).take n))) (some (([]:List Int)++(x0.drop l).take n))
instance IA{l n x0}:MA (iJ l n x0) prog 206 (λ_=>1) λr=>⟨[.rv 9000 l n 1],[(9000,some (.R 2 1 (DV.int .i64) x0))],.row 5000,[(5000,some (.R 2 1 (DV.int .i64) r)),(9000,some (.R 2 1 (DV.int .i64) x0))],[5000]⟩:=⟨fun {r} hM=>by
 unfold iJ at hM;obtain⟨⟨hl,h⟩,hM⟩:=mP hM;obtain rfl:=Option.some.inj hM;refine gY.body func206 ntmps206 rfl rfl rfl rfl ?_;refine fK ?_;refine dV (.cons (eY rfl)<|.nil _) bp bp ?_;refine fK ?_;refine fK ?_;refine aan rfl rfl aV aV (λb hb=>?_);refine qc _ rfl (λc=>?_) (λc=>?_)
 .have h0:n=0:=hb c
  subst h0;refine fK ?_;refine dV (.cons (eY rfl)<|.nil _) bp bp ?_;refine sy (yp (t:=2) (id:=5000) 2 1 rfl rfl) ?_;exact sX (oU (.r1 (.tmp rfl)) (iy.refl _) (kE.spec (.cons rfl (.cons rfl .nil))))
 .refine sW ?_
  refine fK ?_;refine dV (.cons (uU (DV.int .i64) ([]:List Int) rfl rfl rfl rfl rfl rfl rfl)<|.cons (fU rfl)<|.cons (pL ((x0.drop l).take n) h rfl rfl rfl (by rw[List.map_take,List.map_drop];exact Src.rv rfl (by rw[List.length_map];exact hl)))<|.cons (eY rfl)<|.nil _) bp bp ?_;refine sy (σ':=⟨[(2,.row 5000)],[(5000,some (.row 2 1 (List.map (DV.int .i64) (([]:List Int)++(x0.drop l).take n)))),(9000,some (.row 2 1 (List.map (DV.int .i64) x0)))],[5000,9000]⟩) (jP.of (λi=>bif Nat.beq i 5000 then 7 else i) (.cons rfl (iy.refl _) .nil) (.cons rfl (.refl _) (.cons rfl (.refl _) .nil)) rfl rfl rfl) ?_;exact sX (oU (.r1 (.tmp rfl)) (iy.refl _) (kE.spec (.cons rfl (.cons rfl .nil))))⟩
def nP(zfab:aw->Option aB)(x0:aw):Option aB :=fL ([]:List DV) 17 [] [2,3,15,16] [2] i2 (λs t=>(3,some (.bJ 402 [.int .u8 (IntKind.wrap .u8 x0.cZ),.str x0.bx,.I x0.gN,.row 1001]))::(1001,some (.R 402 4 lg s))::t) [.c 3 1002 3 402 4] [(1001,1002)] m64 (x0.cE.length:Int) (λk1 s3=>Bi (idx x0.cE (k1:Int)) λv5=>Bi (aw.dec v5) λv6=>Bi (zfab v6) λv9=>eE 25 (bA 4 lg) [(wj v9)] λv10=>Ck (dK 56 (s3.length+List.length v10))<|nX [] [(1001,26)] (some (s3++v10))) λs3=>wk [.z 1001]<|some (aB.mk (IntKind.wrap .u8 x0.cZ) x0.bx x0.gN s3)
theorem Cy{zfab:aw->Option aB}[zhab:∀{x0},MC (zfab x0) λr=>br prog 180 [.agg (xB x0)] (.agg (jQ r))]{x0}:MC (nP zfab x0) λr=>br prog 180 [.agg (xB x0)] (.agg (jQ r)):=.p func180 ntmps180
def kt:Nat->aw->Option aB
 |0,_=>none
 |fu+1,x0=>nP (kt fu) x0
instance Qt(fu:Nat){x0}:MC (kt fu x0) λr=>br prog 180 [.agg (xB x0)] (.agg (jQ r)):=by
 induction fu generalizing x0 with
 |zero=>exact⟨λh=>dI⟩
 |succ fu ih=>exact Cy (zfab:=kt fu)
def nQ(zfaa:(List DV)->Option (List DV))(x0:List DV):Option (List DV) :=fL ([]:List DV) 11 [] [9,10] [] (λ_ t=>(3,.row 1001)::t) (λs t=>(1001,some (.R 397 6 lg s))::t) [.r 3 1005 397 6] [(1001,1005)] m64 (x0.length:Int) (λk1 s3=>Bi (idx x0 (k1:Int)) λv5=>Bi (bh.dec v5) λv6=>Bi (zfaa v6.vZ) λv9=>Bi (zfaa v6.uL) λv11=>fL ([]:List DV) 32 [] [6,9,10,11,30,31] [] (λ_ t=>(3,.row 1002)::t) (λs t=>(6,some (.bJ 397 [.int .u8 (IntKind.wrap .u8 v6.bC),.str v6.bx,.str v6.bU,.row 1003,.L 6 lg v9,.L 6 lg v11]))::(1002,some (.R 397 6 lg s3))::(1003,some (.R 402 4 lg s))::t) [.c 6 1004 3 402 4] [(1002,1001),(1003,1004)] m64 (v6.js.length:Int) (λBZ rH=>Bi (idx v6.js (BZ:Int)) λlI=>Bi (aw.dec lI) λxa=>Bi ((kt 64) xa) λuQ=>eE 40 (bA 4 lg) [(wj uQ)] λuj=>Ck (dK 56 (rH.length+List.length uj))<|nX [] [(1003,41)] (some (rH++uj))) λrH=>wk [.z 1003]<|eE 46 (bA 6 lg) [(zP (bo.mk (IntKind.wrap .u8 v6.bC) v6.bx v6.bU rH v9 v11))] λlL=>Ck (dK 112 (s3.length+List.length lL))<|nX [] [(1001,47)] (some (s3++lL))) λs3=>wk [.z 1001]<|some s3
theorem Cz{zfaa:(List DV)->Option (List DV)}[zhaa:∀{x0},MC (zfaa x0) λr=>br prog 116 [.L 6 lg x0] (.L 6 lg r)]{x0}:MC (nQ zfaa x0) λr=>br prog 116 [.L 6 lg x0] (.L 6 lg r):=.p func116 ntmps116
def jd:Nat->(List DV)->Option (List DV)
 |0,_=>none
 |fu+1,x0=>nQ (jd fu) x0
instance Qu(fu:Nat){x0}:MC (jd fu x0) λr=>br prog 116 [.L 6 lg x0] (.L 6 lg r):=by
 induction fu generalizing x0 with
 |zero=>exact⟨λh=>dI⟩
 |succ fu ih=>exact Cz (zfaa:=jd fu)
def kR(x0:dW):Option bu :=fL ([]:List cv) 24 [] [1,2,3,22,23] [1,2] i2 (λs t=>(3,some (.bJ 126 [.str x0.bx,.row 1001,.cu,.cu]))::(1001,some (.R 271 2 lZ s))::t) [.c 3 1027 1 271 2] [(1001,1027)] m64 (x0.aY.length:Int) (λk1 s3=>Bi (idx x0.aY (k1:Int)) λLU=>eE 35 (bA 2 lZ) [(cv.mk LU.bx LU.uK)] λYA=>Ck (dK 24 (s3.length+List.length YA))<|nX [] [(1001,36)] (some (s3++YA))) λs3=>fL ([]:List cB) 42 [] [1,2,3,40,41] [1,2] i2 (λs t=>(3,some (.bJ 126 [.str x0.bx,.row 1002,.row 1003,.cu]))::(1002,some (.R 271 2 lZ s3))::(1003,some (.R 272 3 pE s))::t) [.c 3 1026 2 272 3] [(1002,1001),(1003,1026)] m64 (x0.fJ.length:Int) (λk4 s6=>Bi (idx x0.fJ (k4:Int)) λAY=>eE 55 (bA 3 pE) [(cB.mk AY.gz AY.uJ AY.pW)] λv40=>Ck (dK 40 (s6.length+List.length v40))<|nX [] [(1003,56)] (some (s6++v40))) λs6=>fL ([]:List aO) 62 [] [2,3,60,61] [2] i2 (λs t=>(3,some (.bJ 126 [.str x0.bx,.row 1004,.row 1005,.row 1006]))::(1004,some (.R 271 2 lZ s3))::(1005,some (.R 272 3 pE s6))::(1006,some (.R 276 3 nr s))::t) [.c 3 1025 3 276 3] [(1004,1002),(1005,1003),(1006,1025)] m64 (x0.aG.length:Int) (λk7 s9=>Bi (idx x0.aG (k7:Int)) λv11=>fL ([]:List dA) 72 [] [2,3,9,10,60,61,62,70,71] [2,9] i2 (λs t=>(3,some (.bJ 126 [.str x0.bx,.row 1007,.row 1008,.row 1009]))::(10,some (.bJ 276 [.str v11.bx,.row 1010,.cu]))::(1007,some (.R 271 2 lZ s3))::(1008,some (.R 272 3 pE s6))::(1009,some (.R 276 3 nr s9))::(1010,some (.R 279 3 xD s))::t) [.c 10 1024 1 279 3] [(1007,1004),(1008,1005),(1009,1006),(1010,1024)] m64 (v11.eG.length:Int) (λBZ rH=>Bi (idx v11.eG (BZ:Int)) λzK=>eE 86 (bA 3 xD) [(dA.mk zK.bx (IntKind.wrap .u8 zK.sQ) zK.uK)] λCu=>Ck (dK 32 (rH.length+List.length Cu))<|nX [] [(1010,87)] (some (rH++Cu))) λrH=>fL ([]:List bS) 93 [] [2,3,10,60,61,62,91,92] [2] i2 (λs t=>(3,some (.bJ 126 [.str x0.bx,.row 1011,.row 1012,.row 1013]))::(10,some (.bJ 276 [.str v11.bx,.row 1014,.row 1015]))::(1011,some (.R 271 2 lZ s3))::(1012,some (.R 272 3 pE s6))::(1013,some (.R 276 3 nr s9))::(1014,some (.R 279 3 xD rH))::(1015,some (.R 282 1 wi s))::t) [.c 10 1023 2 282 1] [(1011,1007),(1012,1008),(1013,1009),(1014,1010),(1015,1023)] m64 (v11.bf.length:Int) (λk15 CK=>Bi (idx v11.bf (k15:Int)) λv21=>fL ([]:List bG) 99 [] [2,3,10,15,60,61,62,91,92,93,97,98] [2] i2 (λs t=>(3,some (.bJ 126 [.str x0.bx,.row 1016,.row 1017,.row 1018]))::(10,some (.bJ 276 [.str v11.bx,.row 1019,.row 1020]))::(15,some (.bJ 282 [.row 1021]))::(1016,some (.R 271 2 lZ s3))::(1017,some (.R 272 3 pE s6))::(1018,some (.R 276 3 nr s9))::(1019,some (.R 279 3 xD rH))::(1020,some (.R 282 1 wi CK))::(1021,some (.R 289 3 CQ s))::t) [.c 15 1022 0 289 3] [(1016,1011),(1017,1012),(1018,1013),(1019,1014),(1020,1015),(1021,1022)] m64 (v21.length:Int) (λk22 yf=>Bi (idx v21 (k22:Int)) λv28=>Ck (dK 16 (v28.dY.length))<|Bi ((jd 64) v28.uM) λv31=>eE 114 (bA 3 CQ) [(bG.mk v28.bx v28.dY v31)] λCJ=>Ck (dK 64 (yf.length+List.length CJ))<|nX [] [(1021,115)] (some (yf++CJ))) λyf=>wk [.z 1021]<|eE 121 (bA 1 wi) [(bS.mk yf)] λua=>Ck (dK 24 (CK.length+List.length ua))<|nX [] [(1011,1016),(1012,1017),(1013,1018),(1014,1019),(1015,122)] (some (CK++ua))) λCK=>wk [.z 1014,.z 1015]<|eE 128 (bA 3 nr) [(aO.mk v11.bx rH CK)] λlI=>Ck (dK 64 (s9.length+List.length lI))<|nX [] [(1004,1011),(1005,1012),(1006,129)] (some (s9++lI))) λs9=>wk [.z 1004,.z 1005,.z 1006]<|some (bu.mk x0.bx s3 s6 s9)
instance Mq{x0}:MC (kR x0) λr=>br prog 64 [.agg (Jo x0)] (.agg (tF r)):=⟨λhM=>by unfold kR at hM;exact pbz func64 ntmps64 (wz [109])⟩
def ux(zfad:(List DV)->Option (List DV))(x0:aB):Option aB :=Bi (cl 5 [] (zfad x0.cE)) λv2=>some ({ x0 with cE:=v2 }:aB)
instance Ra{zfad:(List DV)->Option (List DV)}[zhad:∀{x0},MA (zfad x0) prog 303 (λ_=>0) λr=>⟨[.L 4 lg x0,.val (.func (.func 304) #[] #[])],[],.L 4 lg r,[],[]⟩]{x0}:MC (ux zfad x0) λr=>br prog 304 [.agg (jQ x0)] (.agg (jQ r)):=.p func304 ntmps304
def jF(zfad:(List DV)->Option (List DV))(x0:List DV):Option (List DV) :=Ck (kY 56 (x0.length:Int) (x0.length:Int))<|eE 10 lg (wj (aB.mk 0 ByteArray.empty 0 [])) λ_=>fL (List.replicate (Int.toNat (x0.length:Int)) (wj (aB.mk 0 ByteArray.empty 0 []))) 13 [] [1,11,12] [] (λ_ t=>(5,.row 1001)::t) (λs t=>(1001,some (.R 402 4 lg s))::t) [] [(1001,10)] m64 (x0.length:Int) (λk2 s4=>Bi (idx x0 (k2:Int)) λv6=>Bi (aB.dec v6) λv7=>Bi ((ux zfad) v7) λv10=>Bi (idx s4 (k2:Int)) λv12=>Bi (aB.dec v12) λkG=>eE 23 lg (wj v10) λlL=>nX [] [] (some (List.set s4 (Int.toNat (k2:Int)) lL))) λs4=>wk [.z 1001]<|rX [] (some s4)
theorem xQ{zfad:(List DV)->Option (List DV)}[zhad:∀{x0},MA (zfad x0) prog 303 (λ_=>0) λr=>⟨[.L 4 lg x0,.val (.func (.func 304) #[] #[])],[],.L 4 lg r,[],[]⟩]{x0}:MA (jF zfad x0) prog 303 (λ_=>0) λr=>⟨[.L 4 lg x0,.val (.func (.func 304) #[] #[])],[],.L 4 lg r,[],[]⟩:=.b func303 ntmps303
def fR:Nat->(List DV)->Option (List DV)
 |0,_=>none
 |fu+1,x0=>jF (fR fu) x0
instance IY(fu:Nat){x0}:MA (fR fu x0) prog 303 (λ_=>0) λr=>⟨[.L 4 lg x0,.val (.func (.func 304) #[] #[])],[],.L 4 lg r,[],[]⟩:=by
 induction fu generalizing x0 with
 |zero=>exact⟨λh=>dI⟩
 |succ fu ih=>exact xQ (zfad:=fR fu)
def uv(zfag:(List DV)->Option (List DV))(x0:bo):Option bo :=Bi (cl 5 [] ((fR 64) x0.js)) λv2=>Bi (cl 8 [] (zfag x0.vZ)) λv4=>Bi (cl 11 [] (zfag x0.uL)) λv6=>some ({ x0 with js:=v2,vZ:=v4,uL:=v6 }:bo)
instance QY{zfag:(List DV)->Option (List DV)}[zhag:∀{x0},MA (zfag x0) prog 238 (λ_=>0) λr=>⟨[.L 6 lg x0,.val (.func (.func 239) #[] #[])],[],.L 6 lg r,[],[]⟩]{x0}:MC (uv zfag x0) λr=>br prog 239 [.agg (sB x0)] (.agg (sB r)):=.p func239 ntmps239
def jE(zfag:(List DV)->Option (List DV))(x0:List DV):Option (List DV) :=Ck (kY 112 (x0.length:Int) (x0.length:Int))<|eE 10 lg (zP (bo.mk 0 ByteArray.empty ByteArray.empty [] [] [])) λ_=>fL (List.replicate (Int.toNat (x0.length:Int)) (zP (bo.mk 0 ByteArray.empty ByteArray.empty [] [] []))) 13 [] [1,11,12] [] (λ_ t=>(5,.row 1001)::t) (λs t=>(1001,some (.R 397 6 lg s))::t) [] [(1001,10)] m64 (x0.length:Int) (λk2 s4=>Bi (idx x0 (k2:Int)) λv6=>Bi (bo.dec v6) λv7=>Bi ((uv zfag) v7) λv10=>Bi (idx s4 (k2:Int)) λv12=>Bi (bo.dec v12) λkG=>eE 23 lg (zP v10) λlL=>nX [] [] (some (List.set s4 (Int.toNat (k2:Int)) lL))) λs4=>wk [.z 1001]<|rX [] (some s4)
theorem xP{zfag:(List DV)->Option (List DV)}[zhag:∀{x0},MA (zfag x0) prog 238 (λ_=>0) λr=>⟨[.L 6 lg x0,.val (.func (.func 239) #[] #[])],[],.L 6 lg r,[],[]⟩]{x0}:MA (jE zfag x0) prog 238 (λ_=>0) λr=>⟨[.L 6 lg x0,.val (.func (.func 239) #[] #[])],[],.L 6 lg r,[],[]⟩:=.b func238 ntmps238
def fQ:Nat->(List DV)->Option (List DV)
 |0,_=>none
 |fu+1,x0=>jE (fQ fu) x0
instance IX(fu:Nat){x0}:MA (fQ fu x0) prog 238 (λ_=>0) λr=>⟨[.L 6 lg x0,.val (.func (.func 239) #[] #[])],[],.L 6 lg r,[],[]⟩:=by
 induction fu generalizing x0 with
 |zero=>exact⟨λh=>dI⟩
 |succ fu ih=>exact xP (zfag:=fQ fu)
def uw(x0:bG):Option bG :=eE 5 (bA 1 DV.str) ([]:List ByteArray) λ_=>Ck (dK 16 (List.length ([]:List ByteArray)+List.length x0.dY))<|Bi (cl 11 [] ((fQ 64) x0.uM)) λv3=>wk [.z 8]<|some (bG.mk x0.bx (([]:List ByteArray)++x0.dY) v3)
instance QZ{x0}:MC (uw x0) λr=>br prog 176 [.agg (Bb x0)] (.agg (Bb r)):=.p func176 ntmps176
def mh(x0:List bG):Option (List bG) :=Ck (kY 64 (x0.length:Int) (x0.length:Int))<|eE 10 CQ (bG.mk ByteArray.empty [] []) λ_=>fL (List.replicate (Int.toNat (x0.length:Int)) (bG.mk ByteArray.empty [] [])) 13 [] [1,11,12] [] (λ_ t=>(5,.row 1001)::t) (λs t=>(1001,some (.R 289 3 CQ s))::t) [] [(1001,10)] m64 (x0.length:Int) (λk2 s4=>Bi (idx x0 (k2:Int)) λv6=>Bi (uw v6) λv8=>Bi (idx s4 (k2:Int)) λv10=>eE 23 CQ v8 λv11=>nX [] [] (some (List.set s4 (Int.toNat (k2:Int)) v11))) λs4=>wk [.z 1001]<|rX [] (some s4)
instance Ha{x0}:MA (mh x0) prog 175 (λ_=>0) λr=>⟨[.L 3 CQ x0,.val (.func (.func 176) #[] #[])],[],.L 3 CQ r,[],[]⟩:=.b func175 ntmps175
def uc(x0:bS):Option bS :=Bi (cl 5 [] (mh x0.bR)) λv2=>some (bS.mk v2)
instance WJ{x0}:MC (uc x0) λr=>br prog 174 [.agg (NJ x0)] (.agg (NJ r)):=.p func174 ntmps174
def mg(x0:List bS):Option (List bS) :=Ck (kY 24 (x0.length:Int) (x0.length:Int))<|eE 10 wi (bS.mk []) λ_=>fL (List.replicate (Int.toNat (x0.length:Int)) (bS.mk [])) 13 [] [1,11,12] [] (λ_ t=>(5,.row 1001)::t) (λs t=>(1001,some (.R 282 1 wi s))::t) [] [(1001,10)] m64 (x0.length:Int) (λk2 s4=>Bi (idx x0 (k2:Int)) λv6=>Bi (uc v6) λv8=>Bi (idx s4 (k2:Int)) λv10=>eE 23 wi v8 λv11=>nX [] [] (some (List.set s4 (Int.toNat (k2:Int)) v11))) λs4=>wk [.z 1001]<|rX [] (some s4)
instance GZ{x0}:MA (mg x0) prog 173 (λ_=>0) λr=>⟨[.L 1 wi x0,.val (.func (.func 174) #[] #[])],[],.L 1 wi r,[],[]⟩:=.b func173 ntmps173
def wP(x0:aO):Option aO :=eE 3 (bA 3 xD) ([]:List dA) λ_=>Ck (dK 32 (List.length ([]:List dA)+List.length x0.eG))<|Bi (cl 10 [] (mg x0.bf)) λv3=>wk [.z 6]<|some (aO.mk x0.bx (([]:List dA)++x0.eG) v3)
instance aaQ{x0}:MC (wP x0) λr=>br prog 172 [.agg (zN x0)] (.agg (zN r)):=.p func172 ntmps172
def kW(x0:List aO):Option (List aO) :=Ck (kY 64 (x0.length:Int) (x0.length:Int))<|eE 10 nr (aO.mk ByteArray.empty [] []) λ_=>fL (List.replicate (Int.toNat (x0.length:Int)) (aO.mk ByteArray.empty [] [])) 13 [] [1,11,12] [] (λ_ t=>(5,.row 1001)::t) (λs t=>(1001,some (.R 276 3 nr s))::t) [] [(1001,10)] m64 (x0.length:Int) (λk2 s4=>Bi (idx x0 (k2:Int)) λv6=>Bi (wP v6) λv8=>Bi (idx s4 (k2:Int)) λv10=>eE 23 nr v8 λv11=>nX [] [] (some (List.set s4 (Int.toNat (k2:Int)) v11))) λs4=>wk [.z 1001]<|rX [] (some s4)
instance FL{x0}:MA (kW x0) prog 171 (λ_=>0) λr=>⟨[.L 3 nr x0,.val (.func (.func 172) #[] #[])],[],.L 3 nr r,[],[]⟩:=.b func171 ntmps171
def xb(x0:bu):Option bu :=eE 3 (bA 2 lZ) ([]:List cv) λ_=>Ck (dK 24 (List.length ([]:List cv)+List.length x0.aY))<|eE 7 (bA 3 pE) ([]:List cB) λ_=>Ck (dK 40 (List.length ([]:List cB)+List.length x0.fJ))<|Bi (cl 15 [] (kW x0.aG)) λv4=>wk [.z 6,.z 10]<|some (bu.mk x0.bx (([]:List cv)++x0.aY) (([]:List cB)++x0.fJ) v4)
instance afZ{x0}:MC (xb x0) λr=>br prog 114 [.agg (tF x0)] (.agg (tF r)):=.p func114 ntmps114
def dm(x0:Int)(x1:Int):Option Int :=Ck (x1≠0)<|Ck (x1≠0)<|some (Int.tmod (IntKind.wrap .i64 ((Int.tmod x0 x1)+x1)) x1)
instance Rt{x0 x1}:MC (dm x0 x1) λr=>br prog 66 [.I x0,.I x1] (.I r):=.p func66 ntmps66
def ph(x0:aI)(x1:aI):Option Bool :=If (x0.bC != x1.bC) (some (decide (x0.bC<x1.bC)))<|If (x0.gA != x1.gA) (some (decide (x0.gA<x1.gA)))<|If (x0.gB != x1.gB) (some (decide (x0.gB<x1.gB)))<|some (decide (x0.gN<x1.gN))
instance Qq{x0 x1}:MC (ph x0 x1) λr=>br prog 122 [.agg (cU x0),.agg (cU x1)] (.bool r):=.p func122 ntmps122
@[reducible] def vk(s5:(List au)):Option (List au) :=nX [] [] (some s5)
@[reducible] def qB(pD:(List au)):Option (List au) :=nX [] [] (vk pD)
@[reducible] def mN(oi:au)(Cv:(List au)×Bool):Option ((List au)×Bool) :=eE 42 (bA 7 df) [oi] λv21=>Ck (dK 72 (Cv.1.length+List.length v21))<|nX [] [(1001,43)] (some ((Cv.1++v21),Cv.2))
@[reducible] def mO(v7:au)(a9:List au)(oi:au)(s28:Bool):Option ((List au)×Bool) :=jn (mN oi) 12 [] [5,9,10,11,12,16,17,18] [5,9] (λs t=>(6,.row 1003)::(7,.bool s.2)::t) (λs t=>(1003,some (.R 176 7 df s.1))::t)<|Bi (gb (!s28) (false) (ph v7.cQ oi.cQ)) λua=>If ((!s28)&&ua) (eE 38 (bA 7 df) [v7] λxz=>Ck (dK 72 (a9.length+List.length xz))<|nX [] [(1003,39)] (mN oi ((a9++xz),true)))<|nX [] [(1003,1002)] (mN oi (a9,s28))
def mo(x0:List au):Option (List au) :=fL ([]:List au) 12 [] [10,11] [] (λs t=>(3,.L 7 df s)::t) i2 [] [] m64 (x0.length:Int) (λk1 s3=>jn vk 10004 [] [10,11,12] [] (λs t=>(3,.L 7 df s)::t) i2<|Bi (idx x0 (k1:Int)) λv7=>fL (([]:List au),false) 18 [] [5,10,11,12,16,17] [5] (λs t=>(6,.row 1001)::(7,.bool s.2)::t) (λs t=>(1001,some (.R 176 7 df s.1))::t) [.r 6 1004 176 7] [(1001,1004)] m64 (s3.length:Int) (λk8 rG=>Bi (idx s3 (k8:Int)) λoi=>jn (mO v7 rG.1 oi) 10 [] [5,9,10,11,12,16,17,18] [5,9] (λs t=>(6,.row 1002)::(7,.bool s)::t) (λ_ t=>(1002,some (.R 176 7 df rG.1))::t)<|If ((oi.cQ.bC==v7.cQ.bC)&&((oi.cQ.gA==v7.cQ.gA)&&((oi.cQ.gB==v7.cQ.gB)&&((oi.cQ.gN==v7.cQ.gN)&&true)))) (nX [] [(1002,1001)] (mO v7 rG.1 oi true))<|nX [] [(1002,1001)] (mO v7 rG.1 oi rG.2)) λrG=>jn qB 17 [] [10,11,12] [] (λs t=>(6,.L 7 df s)::t) i2<|If (!rG.2) (eE 49 (bA 7 df) [v7] λll=>Ck (dK 72 (rG.1.length+List.length ll))<|nX [.z 50] [] (qB (rG.1++ll)))<|nX [.z 1001] [] (qB rG.1)) λs3=>some s3
instance Qp{x0}:MC (mo x0) λr=>br prog 67 [.L 7 df x0] (.L 7 df r):=.p func67 ntmps67
@[reducible] def tE(a2:Int)(s5:(List au)):Option (xy ((List au)×Int) (List au)) :=nX [] [(1001,1002)] (some (.next (s5,(IntKind.wrap .i64 (a2+1)))))
@[reducible] def ed(a1:List au)(a2:Int)(v7:au)(v11:Int)(kG:Int)(CL:Int×Int×Int×(List Int)):Option (xy ((List au)×Int) (List au)) :=wk [.z 1004]<|eE 134 (bA 7 df) [(au.mk (aI.mk (IntKind.wrap .u8 (1+((IntKind.wrap .u8 ((v7.cQ.bC % 9)+9)) % 9))) v11 CL.1 kG) CL.2.1 CL.2.2.1 CL.2.2.2)] λlI=>Ck (dK 72 (a1.length+List.length lI))<|nX [] [(1002,135)] (tE a2 (a1++lI))
def jV(x0:List au)(x1:Int):Option (List au) :=wL (E:=(List au)) (([]:List au),0) [] [0,1] [] (λs t=>(5,.row 1001)::(6,.I s.2)::t) (λs t=>(1001,some (.R 176 7 df s.1))::t) [.r 5 1013 176 7] [(1001,1013)] (λs3=>If ((decide (s3.2<(x0.length:Int)))&&(decide (s3.2<x1))) (jn (tE s3.2) 10005 [] [0,1,6] [] (λ_ t=>(5,.row 1002)::t) (λs t=>(1002,some (.R 176 7 df s))::t)<|Bi (idx x0 s3.2) λv7=>Ck ((0:Int)<=v7.cQ.bC∧(0:Int)<9)<|Ck ((0:Int)<=(IntKind.wrap .u8 ((v7.cQ.bC % 9)+9))∧(0:Int)<9)<|Bi (dm v7.cQ.gA 3) λv11=>Bi (dm v7.cQ.gN 4) λkG=>jn (ed s3.1 s3.2 v7 v11 kG) 8 [] [0,1,6,8,9] [] (λ_ t=>(5,.row 1003)::t) (λs t=>(8,some (.bJ 174 [.int .u8 (IntKind.wrap .u8 (1+((IntKind.wrap .u8 ((v7.cQ.bC % 9)+9)) % 9))),.I v11,.I s.1,.I kG]))::(9,some (.bJ 176 [.int .u8 0,.I 0,.I 0,.I 0,.I s.2.1,.I s.2.2.1,.row 1004]))::(1003,some (.R 176 7 df s3.1))::(1004,some (.R 2 1 (DV.int .i64) s.2.2.2))::t)<|If ((IntKind.wrap .u8 (1+((IntKind.wrap .u8 ((v7.cQ.bC % 9)+9)) % 9)))==1) (Bi (dm v7.cQ.gB 3) λuQ=>Bi (dm v7.Cl 13) λv24=>Ck (fC (v7.cE.length) 0 (if 2<(v7.cE.length:Int)then 2 else(v7.cE.length:Int)))<|Ck (dK 8 (List.length (List.take (Int.toNat (if 2<(v7.cE.length:Int)then 2 else(v7.cE.length:Int))) v7.cE)))<|nX [] [(1003,1001),(1004,64)] (ed s3.1 s3.2 v7 v11 kG (uQ,v24,0,(List.take (Int.toNat (if 2<(v7.cE.length:Int)then 2 else(v7.cE.length:Int))) v7.cE))))<|If ((IntKind.wrap .u8 (1+((IntKind.wrap .u8 ((v7.cQ.bC % 9)+9)) % 9)))==2) (Bi (dm v7.Cl 13) λv28=>Bi (dm v7.gD 2) λv30=>nX [.c 9 1005 6 2 1] [(1003,1001),(1004,1005)] (ed s3.1 s3.2 v7 v11 kG (0,v28,v30,([]:List Int))))<|If ((IntKind.wrap .u8 (1+((IntKind.wrap .u8 ((v7.cQ.bC % 9)+9)) % 9)))==3) (Bi (dm v7.Cl 13) λCJ=>Bi (dm v7.gD 3) λCt=>nX [.c 9 1006 6 2 1] [(1003,1001),(1004,1006)] (ed s3.1 s3.2 v7 v11 kG (0,CJ,(IntKind.wrap .i64 (1+Ct)),([]:List Int))))<|If ((IntKind.wrap .u8 (1+((IntKind.wrap .u8 ((v7.cQ.bC % 9)+9)) % 9)))==4) (Bi (dm v7.Cl 13) λCu=>nX [.c 9 1007 6 2 1] [(1003,1001),(1004,1007)] (ed s3.1 s3.2 v7 v11 kG (0,Cu,0,([]:List Int))))<|If ((IntKind.wrap .u8 (1+((IntKind.wrap .u8 ((v7.cQ.bC % 9)+9)) % 9)))==5) (Bi (dm v7.cQ.gB 3) λHG=>nX [.c 9 1008 6 2 1] [(1003,1001),(1004,1008)] (ed s3.1 s3.2 v7 v11 kG (HG,0,0,([]:List Int))))<|If ((IntKind.wrap .u8 (1+((IntKind.wrap .u8 ((v7.cQ.bC % 9)+9)) % 9)))==6) (Bi (dm v7.cQ.gB 3) λv40=>Bi (dm v7.gD 5) λGG=>nX [.c 9 1009 6 2 1] [(1003,1001),(1004,1009)] (ed s3.1 s3.2 v7 v11 kG (v40,0,(IntKind.wrap .i64 (1+GG)),([]:List Int))))<|If ((IntKind.wrap .u8 (1+((IntKind.wrap .u8 ((v7.cQ.bC % 9)+9)) % 9)))==7) (Bi (dm v7.cQ.gB 3) λYA=>Bi (dm v7.gD 4) λv46=>nX [.c 9 1010 6 2 1] [(1003,1001),(1004,1010)] (ed s3.1 s3.2 v7 v11 kG (YA,0,v46,([]:List Int))))<|If ((IntKind.wrap .u8 (1+((IntKind.wrap .u8 ((v7.cQ.bC % 9)+9)) % 9)))==9) (Bi (dm v7.gD 5) λFy=>nX [.c 9 1011 6 2 1] [(1003,1001),(1004,1011)] (ed s3.1 s3.2 v7 v11 kG (0,0,(IntKind.wrap .i64 (1+Fy)),([]:List Int))))<|nX [.c 9 1012 6 2 1] [(1003,1001),(1004,1012)] (ed s3.1 s3.2 v7 v11 kG (0,0,0,([]:List Int))))<|some (.done s3.1)) λe51=>wk [.z 1001]<|Bi (mo e51) λQK=>some QK
instance Lo{x0 x1}:MC (jV x0 x1) λr=>br prog 32 [.L 7 df x0,.I x1] (.L 7 df r):=.p func32 ntmps32
@[reducible] def pQ(a2:Int)(s5:(List aZ)):Option (xy ((List aZ)×Int) (List aZ)) :=nX [] [(1001,1002)] (some (.next (s5,(IntKind.wrap .i64 (a2+1)))))
def jA(x0:List aZ)(x1:Int):Option (List aZ) :=wL (E:=(List aZ)) (([]:List aZ),0) [] [0,1] [] (λs t=>(5,.row 1001)::(6,.I s.2)::t) (λs t=>(1001,some (.R 181 4 du s.1))::t) [.r 5 1007 181 4] [(1001,1007)] (λs3=>If ((decide (s3.2<(x0.length:Int)))&&(decide (s3.2<x1))) (jn (pQ s3.2) 10005 [] [0,1,6] [] (λ_ t=>(5,.row 1002)::t) (λs t=>(1002,some (.R 181 4 du s))::t)<|Bi (idx x0 s3.2) λv7=>Bi (dm v7.cA.gz 3) λv9=>Bi (dm v7.cA.uJ 3) λv11=>Bi (dm v7.cA.gN 4) λkG=>fL false 50 [] [0,1,6,7,49] [7] (λs t=>(5,.row 1003)::(8,.bool s)::(48,.row 1003)::t) (λ_ t=>(1003,some (.R 181 4 du s3.1))::t) [] [(1003,1001)] m64 (s3.1.length:Int) (λk14 s16=>Bi (idx s3.1 (k14:Int)) λv37=>nX [] [] (some (s16||((v37.cA.gz==v9)&&((v37.cA.uJ==v11)&&((v37.cA.gN==kG)&&true)))))) λs16=>If s16 (nX [] [(1002,1003)] (pQ s3.2 s3.1))<|wL (E:=(List cm)) (1,0,([]:List cm)) [] [0,1,6,7] [] (λs t=>(5,.row 1004)::(11,.I s.1)::(12,.I s.2.1)::t) (λs t=>(7,some (.bJ 181 [.I v9,.I v11,.I kG,.row 1005]))::(1004,some (.R 181 4 du s3.1))::(1005,some (.R 183 3 xC s.2.2))::t) [.c 7 1006 3 183 3] [(1004,1003),(1005,1006)] (λCL=>Bi (idx x0 s3.2) λuQ=>If ((decide (CL.2.1<(uQ.gP.length:Int)))&&(decide (CL.2.1<2))) (Bi (idx uQ.gP CL.2.1) λv24=>Bi (dm v24.Cl 8) λxz=>Bi (dm v24.bU 4) λv28=>Ck (fC (v24.cE.length) 0 (if 2<(v24.cE.length:Int)then 2 else(v24.cE.length:Int)))<|Ck (dK 8 (List.length (List.take (Int.toNat (if 2<(v24.cE.length:Int)then 2 else(v24.cE.length:Int))) v24.cE)))<|eE 106 (bA 3 xC) [(cm.mk (IntKind.wrap .i64 (CL.1+xz)) v28 (List.take (Int.toNat (if 2<(v24.cE.length:Int)then 2 else(v24.cE.length:Int))) v24.cE))] λv31=>Ck (dK 40 (CL.2.2.length+List.length v31))<|nX [] [(1005,107)] (some (.next ((IntKind.wrap .i64 (CL.1+xz)),(IntKind.wrap .i64 (CL.2.1+1)),(CL.2.2++v31)))))<|some (.done CL.2.2)) λe35=>wk [.z 1005]<|eE 111 (bA 4 du) [(aZ.mk (bw.mk v9 v11 kG) e35)] λKM=>Ck (dK 48 (s3.1.length+List.length KM))<|nX [] [(1002,112)] (pQ s3.2 (s3.1++KM)))<|some (.done s3.1)) λe38=>wk [.z 1001]<|some e38
instance OG{x0 x1}:MC (jA x0 x1) λr=>br prog 33 [.L 4 du x0,.I x1] (.L 4 du r):=⟨λhM=>by unfold jA at hM;exact pbz func33 ntmps33 (wz [104])⟩
end Go.Proofs.YtaafmkmdfcgeaaaGreatDoor
namespace Go.Proofs.YtaafmkmdfcgeaaaGreatDoor
open Go.Proofs.Tryz
def Ei:Nd:=λop s n a=>wj ⟨op,s,n,a⟩
def Vb:Ns:=λk n h e s t=>zP ⟨k,n,h,e,s,t⟩
theorem ac4{sf:E5->Option aB}{R:DV->DV->Prop}{x:E5}(hl:x.cE.length<=2)(h:∀a∈x.cE,∃e,aw.dec a=some e∧Wp (sf e) λr=>R a (wj r)) :
  Wp (nP sf x) λr=>∃l,r=⟨IntKind.wrap .u8 x.cZ,x.bx,x.gN,l⟩∧MI R x.cE x.cE.length l:=by
 unfold nP;refine cC (λj s=>MI R x.cE j s) gx MI.zero ?_ ?_
 .rintro j s hj hs
  refine bO hj (λa a1 a2=>?_);obtain⟨e,e1,e2⟩:=h a a2;refine aF e1 (av e2 (λr hr=>?_));exact aX (aK (yk Ip aV) (ay (aj (hs.snoc a1 hr))))
 .intro s hs
  rw[Int.toNat_natCast]at hs;exact cV (aj ⟨s,rfl,hs⟩)
theorem ZQ{C:SN}:∀{d:Nat} {t:Bool} {x:DV},WE C Zw d t x->∀{fu:Nat},d<=fu->∃e,aw.dec x=some e∧Wp (kt fu e) λr=>WE C Ei d t (wj r):=by
 intro d t x h
 induction h with
 | @node d t u op n s c l sh hl _ ih=>
  intro fu hf;obtain⟨g,rfl⟩:∃g,fu=g+1:=⟨fu-1,ah⟩;refine⟨_,aw.nF _,?_⟩;unfold kt;have hc:=sh.c2;have ho:=sh.op;refine(ac4 (R:=λ_ b=>WE C Ei d u b) bB (λa ha=>ih a ha ah)).imp ?_;rintro r ⟨l',rfl,h1⟩;dsimp only at h1 |-;rw[wrap_u8 ah ah];exact .node sh (by rw[h1.1];exact hl) (λb hb=>by obtain⟨_,_,h⟩:=h1.mem hb;exact h)
theorem WB.succ{C:SN}{me:Nd}{ms:Ns}{d n:Nat}{l:List DV}:WB C me ms (d+1) n l=WL (WF C me ms (WB C me ms d)) n l:=rfl
theorem WL.split{S:Nat->DV->Prop}{n:Nat}{l:List DV}(h:WL S n l):∃f:Nat->Nat,f 0=0∧f l.length=n∧∀(j:Nat) (x:DV),l[j]? = some x->∃a,f (j+1)=f j+a∧S a x:=by
 induction h with
 |nil=>exact⟨λ_=>0,rfl,rfl,aR⟩
 | @cons a b l s hs _ ih=>
  obtain⟨f,f0,f1,f2⟩:=ih;refine⟨λj=>match j with|0=>0|j+1=>a+f j,rfl,by simp only[List.length_cons];omega,λj x hx=>?_⟩;cases j with
  |zero=>simp at hx;subst hx;exact⟨a,bB,hs⟩
  |succ j=>
   obtain⟨c,c1,c2⟩:=f2 j x Sq;exact⟨c,bB,c2⟩
theorem aag{C:SN}:∀(d:Nat) {n:Nat} {l:List DV},WB C Zw ns5 d n l->n<=12->∀{fu:Nat},d<fu->Wp (jd fu l) λr=>WB C Ei Vb d n r:=by
 intro d
 induction d with
 |zero=>
  rintro n l ⟨rfl,rfl⟩ _ fu hf;obtain⟨g,rfl⟩:∃g,fu=g+1:=⟨fu-1,ah⟩;unfold jd nQ;refine cC (λj s=>s = []) Su rfl (λj s hj=>DE) ?_;rintro s rfl;exact cV (aj ⟨rfl,rfl⟩)
 |succ d ih=>
  intro n l h hn fu hf;obtain⟨g,rfl⟩:∃g,fu=g+1:=⟨fu-1,ah⟩;have hl:=h.len;rw[WB.succ]at h;show Wp _ λr=>WL (WF C Ei Vb (WB C Ei Vb d)) n r
  obtain⟨f,f0,f1,f2⟩:=h.split
  have fm:∀{i j:Nat},i<=j->j<=l.length->f i<=f j:=by
   intro i j DM
   induction DM with
   |refl=>intro _;exact Nat.le_refl _
   |step hm ih2=>
    intro hj
    rename_i m
    obtain⟨a,a1,_⟩:=f2 m _ (List.getElem?_eq_getElem ah);have:=ih2 ah;show f i<=f (m+1);omega
  unfold jd nQ;refine cC (λj s=>s.length=j∧WL (WF C Ei Vb (WB C Ei Vb d)) (f j) s) gx ⟨rfl,by rw[f0];exact .nil⟩ ?_ ?_
  .rintro j s hj ⟨s1,s2⟩
   have Yu:j<l.length:=ah;refine bO hj (λx x1 x2=>?_);obtain⟨m,m1,m2⟩:=f2 j x x1;have:=fm (i:=j+1) (j:=l.length) ah (Nat.le_refl _);obtain⟨sh,hl,he,hs,hz,hp,hq⟩:=m2
   rename_i k FY hh t c a b p q es ss zs
   have hk:=sh.op;refine aF (bh.nF _) ?_;refine av (ih hs ah ah) (λs' jI=>?_);refine av (ih hz ah ah) (λz' Tc=>?_);have hc:es.length<=3:=by rw[hl];exact sh.c3
   refine cC (λj s=>MI (λ_ b=>WE C Ei 6 t b) es j s) Ir MI.zero ?_ ?_
   .rintro i y hi hy
    dsimp only at hi;refine bO hi (λe e1 e2=>?_);obtain⟨e5,e3,e4⟩:=ZQ (he e e2) (fu:=64) ah;refine aF e3 (av e4 (λr hr=>?_));exact aX (aK (yk (by have:=hy.1;omega) aV) (ay (aj (hy.snoc e1 hr))))
   .intro y hy
    dsimp only at hy |-;rw[Int.toNat_natCast]at hy;refine cV (aX (aK (yk ah aV) (ay (aj ?_))));rw[wrap_u8 ah ah];refine⟨by rw[List.length_append,s1];rfl,?_⟩;rw[m1];refine s2.snoc (.node sh (by rw[hy.1];exact hl) (λb hb=>by obtain⟨_,_,h⟩:=hy.mem hb;exact h) jI Tc ?_ ?_)
    .exact λe=>hs.emp jI (hp e)
    .exact λe=>hz.emp Tc (hq e)
  .rintro s ⟨s1,s2⟩
   rw[Int.toNat_natCast,f1]at s2;exact cV (aj s2)
def LN(I T F:Nat)(gw:List (List Int))(own:Nat)(r:List Int)(k:Nat)(x:bG):Prop :=∃p:Nat,p<=2∧r[k]? = some (p:Int)∧k<3∧x.bx=nm 104 k∧x.dY=(List.range p).map (nm 112)∧∃a,a<=12∧WB ⟨I,T,F,p,gw,own⟩ Ei Vb 4 a x.uM
def vW(I T:Nat):List dA:=(List.range I).map (λ(k:Nat)=>(⟨nm 120 k,1,(k:Int)⟩:dA))++[⟨nm 98 0,2,0⟩]++(List.range T).map (λk=>(⟨nm 116 k,3,0⟩:dA))
structure SCW(F:Nat)(gw:List (List Int))(i:Nat)(I T:Nat)(r:List Int)(x:aO):Prop where
 i1:1<=I
 i3:I<=3
 t1:T<=1
 ar:gw[i]? = some r
 name:x.bx=cn i
 vars:x.eG=vW I T
 v1:1<=x.bf.length
 v2:x.bf.length<=2
 h1:∀u∈x.bf,1<=u.bR.length∧u.bR.length<=r.length
 full:∃u∈x.bf,u.bR.length=r.length
 hs:∀u∈x.bf,∀(k:Nat) (y:bG),u.bR[k]? = some y->LN I T F gw i r k y
structure Fu(gw:List (List Int))(f:bu):Prop where
 name:f.bx=⟨#[102,108,101,101,116,49]⟩
 f2:f.aY.length<=2
 fn:∀k x,f.aY[k]? = some x->x.bx=nm 102 k
 n1:1<=f.aG.length
 n3:f.aG.length<=3
 lk:∃ks:List (Nat×Int),(ks.map (·.1)).Pairwise (· < ·)∧(∀p∈ks,p.1<f.aG.length*f.aG.length∧1<=p.2∧p.2<=3)∧f.fJ=ks.map λp=>⟨cn (p.1 / f.aG.length),cn (p.1 % f.aG.length),p.2⟩
 al:gw.length=f.aG.length
 ar:∀r∈gw,1<=r.length∧r.length<=3∧∀k∈r,0<=k∧k<=2
 cs:∀i x,f.aG[i]? = some x->∃I T r,SCW f.aY.length gw i I T r x
theorem OJ:∀(m:Nat) (l:List Nat),l.Pairwise (· < ·)->(∀x∈l,x<m)->l.length<=m:=by
 intro m
 induction m with
 |zero=>
  intro l _ h;cases l with
  |nil=>exact Nat.le_refl _
  |cons a t=>exact absurd (h a aR) ah
 |succ m ih=>
  intro l hp hl;rcases List.eq_nil_or_concat l with rfl|⟨t,a,rfl⟩
  .exact Nat.zero_le _
  .rw[List.concat_eq_append]at hp hl |-
   rw[List.pairwise_append]at hp;have ha:=hl a aR;have:=ih t hp.1 (λx hx=>by have:=hp.2.2 x hx a aR;omega);simp only[List.length_append,List.length_singleton];omega
theorem Vh{α β:Type}{R:α->β->Prop}{f:α->β}{l:List α}{s:List β}(h:MI R l l.length s)(hf:∀a b,a∈l->R a b->b=f a):s=l.map f:=by
 apply List.ext_getElem?;intro k;rw[List.getElem?_map];cases e:l[k]? with
 |none=>
  have:=h.1;rw[List.getElem?_eq_none_iff]at e;rw[Option.map_none,List.getElem?_eq_none_iff];omega
 |some a=>
  obtain⟨b,b1,b2⟩:=h.at e;rw[b1,hf a b (List.mem_of_getElem? e) b2];rfl
theorem aaq{x:dW}(hx:PT x):Wp (kR x) λf=>∃gw,Fu gw f:=by
 obtain⟨name,f2,fn,n1,n3,⟨ks,lk1,lk2,lk3⟩,gw,al,ar,cs⟩:=hx
 have hll:x.fJ.length<=9:=by
  rw[lk3,List.length_map,<-List.length_map (f:=(·.1))];refine OJ 9 _ lk1 (λy hy=>?_);obtain⟨p,hp,rfl⟩:=List.mem_map.1 hy;have:=(lk2 p hp).1;have h9:=Nat.mul_le_mul n3 n3;omega
 unfold kR;refine cC (λj s=>MI (λ(a:cW) (b:cv)=>b.bx=a.bx) x.aY j s) gx MI.zero ?_ ?_
 .intro j s hj hs
  refine bO hj (λa a1 a2=>aX (aK (yk Ip aV) (ay (aj (hs.snoc a1 rfl)))))
 intro fl hfl;rw[Int.toNat_natCast]at hfl;refine cC (λj s=>MI (λ(a:cJ) (b:cB)=>b=⟨a.gz,a.uJ,a.pW⟩) x.fJ j s) gx MI.zero ?_ ?_
 .intro j s hj hs
  refine bO hj (λa a1 a2=>aX (aK (yk Ip aV) (ay (aj (hs.snoc a1 rfl)))))
 intro ln hln;rw[Int.toNat_natCast]at hln;have av7:=Vh hln (λa b _ h=>h);have alX:fl.length=x.aY.length:=hfl.1;refine cC (λj s=>LI (λi b=>∃I T r,SCW fl.length gw i I T r b) j s) gx LI.zero ?_ ?_
 .rintro j s hj hs
  refine bO hj (λc c1 c2=>?_);obtain⟨I,T,r,v,vs,i1,i3,t1,hr,hn,hv,PY,v1,v3,v4,v5,v6,hh⟩:=cs j c c1;have Yt:c.eG.length<=5:=by rw[hv];simp;omega
  have hvv:c.bf.length<=2:=by rw[PY];simp;omega
  have hr3:=ar r (List.mem_of_getElem? hr)
  have hu:∀u∈c.bf,1<=u.length∧u.length<=r.length:=by
   intro u h;rw[PY]at h;rcases List.mem_cons.1 h with rfl|h
   .exact⟨v3,v4⟩
   .exact v5 u h
  refine cC (λj s=>MI (λ(a:cq) (b:dA)=>b=⟨a.bx,IntKind.wrap .u8 a.sQ,a.uK⟩) c.eG j s) gx MI.zero ?_ ?_
  .intro j s hj hs
   refine bO hj (λa a1 a2=>aX (aK (yk Ip aV) (ay (aj (hs.snoc a1 rfl)))))
  intro vr hvr;rw[Int.toNat_natCast]at hvr
  have av8:vr=vW I T:=by
   rw[Vh hvr (λa b _ h=>h),hv];unfold vW;simp only[List.map_append,List.map_map,List.map_cons,List.map_nil]
   rfl
  refine cC (λq s=>MI (λ(a:List bM) (b:bS)=>b.bR.length=a.length∧∀k y,b.bR[k]? = some y->LN I T fl.length gw j r k y) c.bf q s) gx MI.zero ?_ ?_
  .intro q s hq hs
   refine bO hq (λu u1 u2=>?_);have hul:=hu u u2;refine cC (λq s=>LI (LN I T fl.length gw j r) q s) gx LI.zero ?_ ?_
   .intro k s hk hs
    refine bO hk (λh e1 e2=>?_);rw[PY]at u2;obtain⟨p,p2,rp,k3,FY,LV,a,a12,hb⟩:=hh u u2 k h e1;have je:=xv.wb (C:=⟨Zw,ns5,I,T,(x.aY.length:Int),p,gw,j⟩) (λr hr k hk=>((ar r hr).2.2 k hk).2) hb;refine aK (by unfold dK;rw[LV];simp;omega) ?_;refine av (aag 4 je a12 ah) (λb Ap=>?_);refine aX (aK (yk Ip aV) (ay (aj (hs.snoc ⟨p,p2,rp,k3,FY,LV,a,a12,?_⟩))));rw[alX];exact Ap
   .intro s' jI
    rw[Int.toNat_natCast]at jI;exact cV (aX (aK (yk Ip aV) (ay (aj (hs.snoc u1 ⟨jI.1,jI.2⟩)))))
  .intro w hw
   rw[Int.toNat_natCast]at hw;refine cV (aX (aK (yk Ip aV) (ay (aj (hs.snoc ⟨I,T,r,?_⟩)))));have hw1:=hw.1;refine⟨i1,i3,t1,hr,hn,av8,by dsimp only;rw[hw1,PY];simp,bB,λu h=>?_,?_,λu h k y e=>?_⟩
   .obtain⟨a,a1,a2,_⟩:=hw.mem h
    have:=hu a a1;omega
   .have:∃a∈c.bf,a.length=r.length:=by
     rw[PY];rcases v6 with h|⟨a,h1,h2⟩
     .exact⟨v,aR,h⟩
     .exact⟨a,Pt,h2⟩
    obtain⟨a,a1,a2⟩:=this;obtain⟨k,hk,rfl⟩:=List.getElem_of_mem a1;obtain⟨b,b1,b2,_⟩:=hw.at (List.getElem?_eq_getElem hk);exact⟨b,List.mem_of_getElem? b1,ah⟩
   .obtain⟨a,a1,a2,a3⟩:=hw.mem h
    exact a3 k y e
 .intro cp hcp
  rw[Int.toNat_natCast]at hcp;have hc1:=hcp.1;refine cV (aj ⟨gw,name,bB,λk y hy=>?_,bB,bB,⟨ks,lk1,?_,?_⟩,bB,ar,hcp.2⟩)
  .obtain⟨a,a1,a2⟩:=hfl.back hy
   rw[a2];exact fn k a a1
  .dsimp only;rw[hc1];exact lk2
  .dsimp only
   rw[av7,lk3,hc1,List.map_map];rfl
open Go.RowKit
instance:CEx prog 157 Extern.AbiNoEscape.same:=⟨λargs w=>run_callFunc_extern (fn:=Tryz.f157) bp bp bp bp bp args w⟩
instance:CUp prog 132 350:=⟨134,bp,bp,bp⟩
instance:CPi prog 132 134:=⟨bp,bp⟩
instance:CDn prog 350 132 134:=⟨bp,bp,bp⟩
instance:CUs prog 218 5:=⟨bp,bp⟩
instance:CBs prog 22 9 5:=⟨bp,bp,bp⟩
instance:CEx prog 417 Extern.BytealgIndexByte.indexByte:=⟨λargs w=>run_callFunc_extern (fn:=Tryz.f417) bp bp bp bp bp args w⟩
instance:ajC prog 488 9 4:=⟨bp,bp⟩
attribute [local irreducible] gL dH br gY jP dK fC kY
def Ui(x:Nat->Int):List DV:=[.int .u8 (x 0),.int .u8 (x 1),.int .u8 (x 2),.int .u8 (x 3),.int .u8 (x 4),.int .u8 (x 5),.int .u8 (x 6),.int .u8 (x 7),.int .u8 (x 8),.int .u8 (x 9),.int .u8 (x 10),.int .u8 (x 11),.int .u8 (x 12),.int .u8 (x 13),.int .u8 (x 14),.int .u8 (x 15),.int .u8 (x 16),.int .u8 (x 17),.int .u8 (x 18),.int .u8 (x 19),.int .u8 (x 20),.int .u8 (x 21),.int .u8 (x 22),.int .u8 (x 23),.int .u8 (x 24),.int .u8 (x 25),.int .u8 (x 26),.int .u8 (x 27),.int .u8 (x 28),.int .u8 (x 29),.int .u8 (x 30),.int .u8 (x 31)]
structure fY where
 Ad:List ByteArray
 Ds:List (List cL)
 Kd:List (List Bool)
def abn(x:fY):List DV:=[.sl 1 (List.map DV.str x.Ad),.sl 1 (List.map (bA 3 sD) x.Ds),.sl 1 (List.map (bA 1 DV.bool) x.Kd)]
def Uf(x:fY):DV:=.agg (abn x)
structure iY where
 nc:List fY
def NK(x:iY):List DV:=[.sl 3 (List.map Uf x.nc)]
structure cR where
 oW:bu
 ahD:ByteArray
 gid:Nat->Int
 yL:iY
def sC(x:cR):List DV:=[.str x.oW.bx,.sl 2 (List.map lZ x.oW.aY),.sl 3 (List.map pE x.oW.fJ),.sl 3 (List.map nr x.oW.aG),.str x.ahD,.int .u8 (x.gid 0),.int .u8 (x.gid 1),.int .u8 (x.gid 2),.int .u8 (x.gid 3),.int .u8 (x.gid 4),.int .u8 (x.gid 5),.int .u8 (x.gid 6),.int .u8 (x.gid 7),.int .u8 (x.gid 8),.int .u8 (x.gid 9),.int .u8 (x.gid 10),.int .u8 (x.gid 11),.int .u8 (x.gid 12),.int .u8 (x.gid 13),.int .u8 (x.gid 14),.int .u8 (x.gid 15),.int .u8 (x.gid 16),.int .u8 (x.gid 17),.int .u8 (x.gid 18),.int .u8 (x.gid 19),.int .u8 (x.gid 20),.int .u8 (x.gid 21),.int .u8 (x.gid 22),.int .u8 (x.gid 23),.int .u8 (x.gid 24),.int .u8 (x.gid 25),.int .u8 (x.gid 26),.int .u8 (x.gid 27),.int .u8 (x.gid 28),.int .u8 (x.gid 29),.int .u8 (x.gid 30),.int .u8 (x.gid 31),.iv (NK x.yL)]
structure aM where
 eG:List Int
 dh:List aQ
 ez:aQ
def NP(x:aM):List DV:=[.sl 1 (List.map (DV.int .i64) x.eG),.sl 1 (List.map iU x.dh),.sl 2 (List.map ur x.ez.ba)]
def fk(x:aM):DV:=.agg (NP x)
structure bW where
 ba:List au
def zQ(x:bW):List DV:=[.sl 7 (List.map df x.ba)]
def ep(x1:ByteArray)(o0:List ByteArray):Option Int :=fO (E:=Int) () 8 [9000] [0,1,7] [9000] i2 i2 [] [] m64 (o0.length:Int) (λk1 _=>Bi (idx o0 (k1:Int)) λv4=>If (x1.toList==v4.toList) (rX [] (some (.done (k1:Int))))<|nX [] [] (some (.next ()))) fun
  |.next _=>rX [] (some (-1))
  |.done r=>some r
instance Hb{x1 o0}:MA (ep x1 o0) prog 229 (λ_=>0) λr=>⟨[.row 9000,.str x1],[(9000,some (.R 9 1 DV.str o0))],.I r,[(9000,some (.R 9 1 DV.str o0))],[]⟩:=.b func229 ntmps229
def kB(x1:ByteArray)(o0:List ByteArray):Option Bool :=Bi (cl 7 [] (ep x1 o0)) λv2=>rX [] (some (decide (0<=v2)))
instance FB{x1 o0}:MA (kB x1 o0) prog 228 (λ_=>0) λr=>⟨[.row 9000,.str x1],[(9000,some (.R 9 1 DV.str o0))],.bool r,[(9000,some (.R 9 1 DV.str o0))],[]⟩:=.b func228 ntmps228
def BJ(x0:aO):Option (List ByteArray) :=fL ([]:List ByteArray) 11 [] [9,10] [] (λ_ t=>(3,.row 1001)::t) (λs t=>(1001,some (.R 9 1 DV.str s))::t) [.r 3 1003 9 1] [(1001,1003)] m64 (x0.bf.length:Int) (λk1 s3=>Bi (idx x0.bf (k1:Int)) λv5=>fL s3 18 [] [9,10,11,16,17] [] (λ_ t=>(3,.row 1002)::t) (λs t=>(1002,some (.R 9 1 DV.str s))::t) [] [(1002,1001)] m64 (v5.bR.length:Int) (λk6 s8=>Bi (idx v5.bR (k6:Int)) λv10=>Bi (cl 25 [(9000,1002)] (kB v10.bx s8)) λv12=>If (!v12) (eE 30 (bA 1 DV.str) [v10.bx] λkG=>Ck (dK 16 (s8.length+List.length kG))<|nX [] [(1002,31)] (some (s8++kG)))<|nX [] [] (some s8)) λs8=>nX [] [(1001,1002)] (some s8)) λs3=>wk [.z 1001]<|some s3
instance ah0{x0}:MC (BJ x0) λr=>br prog 165 [.agg (zN x0)] (.L 1 DV.str r):=.p func165 ntmps165
def fj(x0:cR):Option Int :=some (x0.oW.aG.length:Int)
instance LF{x0}:MC (fj x0) λr=>br prog 15 [.iv (sC x0)] (.I r):=.p func15 ntmps15
def jg(x0:cR)(x1:Int):Option aO :=Bi (gb (!(decide (x1<0))) (0) (fj x0)) λv2=>If ((decide (x1<0))||(decide (v2<=x1))) (some (aO.mk ByteArray.empty [] []))<|Bi (idx x0.oW.aG x1) λv4=>some v4
instance MO{x0 x1}:MC (jg x0 x1) λr=>br prog 131 [.iv (sC x0),.I x1] (.agg (zN r)):=.p func131 ntmps131
def pv(x0:cR)(x1:Int):Option aM :=Bi (jg x0 x1) λv2=>fL (([]:List Int),([]:List aQ)) 13 [] [4,5,11,12] [4] i2 (λs t=>(5,some (.bJ 201 [.row 1001,.row 1002,.cu]))::(1001,some (.R 2 1 (DV.int .i64) s.1))::(1002,some (.R 199 1 iU s.2))::t) [.c 5 1003 0 2 1,.c 5 1004 1 199 1] [(1001,1003),(1002,1004)] m64 (v2.eG.length:Int) (λk3 s6=>Bi (idx v2.eG (k3:Int)) λv8=>If (v8.sQ==3) (eE 23 (bA 1 iU) [(aQ.mk [])] λv9=>Ck (dK 24 (s6.2.length+List.length v9))<|nX [] [(1002,24)] (some (s6.1,(s6.2++v9))))<|eE 30 (bA 1 (DV.int .i64)) [v8.uK] λv11=>Ck (dK 8 (s6.1.length+List.length v11))<|nX [] [(1001,31)] (some ((s6.1++v11),s6.2))) λs6=>wk [.z 1001,.z 1002]<|some (aM.mk s6.1 s6.2 (aQ.mk []))
instance Qw{x0 x1}:MC (pv x0 x1) λr=>br prog 71 [.iv (sC x0),.I x1] (.agg (NP r)):=.p func71 ntmps71
def rP(x0:iY)(x1:Int):Option (List ByteArray) :=If ((decide (x1<0))||(decide ((x0.nc.length:Int)<=x1))) (some ([]:List ByteArray))<|Bi (idx x0.nc x1) λv2=>Bi (cl 28 [(5000,28)] (iI v2.Ad)) λv4=>wk [.z 28]<|some v4
instance Nc{x0 x1}:MC (rP x0 x1) λr=>br prog 255 [.iv (NK x0),.I x1] (.L 1 DV.str r):=.p func255 ntmps255
def lC(x0:cR)(x1:Int):Option (List ByteArray) :=Bi (rP x0.yL x1) λv2=>some v2
instance Pg{x0 x1}:MC (lC x0 x1) λr=>br prog 194 [.iv (sC x0),.I x1] (.L 1 DV.str r):=.p func194 ntmps194
def uD(x0:cR)(x1:Int)(x2:Int)(x3:Int):Option (Int×Bool) :=Bi (jg x0 x1) λv2=>Bi (lC x0 x1) λv4=>If ((((decide (x2<1))||(decide ((v2.bf.length:Int)<x2)))||(decide (x3<0)))||(decide ((v4.length:Int)<=x3))) (some (0,false))<|Ck (fC (v2.bf.length) 0 x2)<|fO (E:=Int×Bool) () 46 [] [3,11,44,45] [] i2 i2 [] [] m64 (List.length (List.take (Int.toNat x2) v2.bf):Int) (λk6 _=>Bi (idx (List.take (Int.toNat x2) v2.bf) (k6:Int)) λv9=>fO (E:=Int×Bool) () 53 [] [3,11,44,45,46,51,52] [] i2 i2 [] [] m64 (v9.bR.length:Int) (λTj _=>Bi (idx v9.bR (Tj:Int)) λkG=>Bi (idx v4 x3) λlL=>If (kG.bx.toList==lL.toList) (some (.done ((kG.dY.length:Int),true)))<|nX [] [] (some (.next ()))) fun
   |.next _=>nX [] [] (some (.next ()))
   |.done r=>some (.done r)) fun
  |.next _=>some (0,false)
  |.done r=>some r
instance RX{x0 x1 x2 x3}:MC (uD x0 x1 x2 x3) λr=>br prog 142 [.iv (sC x0),.I x1,.I x2,.I x3] (.gh [.I r.1,.bool r.2]):=.p func142 ntmps142
def zD(x0:iY)(x1:Int)(x2:Int)(x3:Int):Option (cL×Bool) :=If ((decide (x1<0))||(decide ((x0.nc.length:Int)<=x1))) (some ((cL.mk 0 0 []),false))<|Bi (idx x0.nc x1) λv2=>Bi (gb (!((((decide (x2<1))||(decide ((v2.Ds.length:Int)<x2)))||(decide (x3<0)))||(decide ((v2.Ad.length:Int)<=x3)))) [] (idx v2.Kd (IntKind.wrap .i64 (x2-1)))) λv4=>Bi (gb (!((((decide (x2<1))||(decide ((v2.Ds.length:Int)<x2)))||(decide (x3<0)))||(decide ((v2.Ad.length:Int)<=x3)))) false (idx v4 x3)) λv6=>If (((((decide (x2<1))||(decide ((v2.Ds.length:Int)<x2)))||(decide (x3<0)))||(decide ((v2.Ad.length:Int)<=x3)))||(!v6)) (some ((cL.mk 0 0 []),false))<|Bi (idx v2.Ds (IntKind.wrap .i64 (x2-1))) λv8=>Bi (idx v8 x3) λv10=>Bi (cl 79 [(5000,79)] (fI v10.ri)) λv12=>wk [.z 79]<|some (({ v10 with ri:=v12 }:cL),true)
instance TU{x0 x1 x2 x3}:MC (zD x0 x1 x2 x3) λr=>br prog 200 [.iv (NK x0),.I x1,.I x2,.I x3] (.gh [.agg (EM r.1),.bool r.2]):=.p func200 ntmps200
def wG(x0:cR)(x1:Int)(x2:Int)(x3:Int):Option (cL×Bool) :=Bi (zD x0.yL x1 x2 x3) λv2=>some (v2.1,v2.2)
instance Vl{x0 x1 x2 x3}:MC (wG x0 x1 x2 x3) λr=>br prog 143 [.iv (sC x0),.I x1,.I x2,.I x3] (.gh [.agg (EM r.1),.bool r.2]):=.p func143 ntmps143
def tu(x0:cR)(x1:Int):Option ByteArray :=Bi (jg x0 x1) λv2=>some v2.bx
instance Vm{x0 x1}:MC (tu x0 x1) λr=>br prog 268 [.iv (sC x0),.I x1] (.str r):=.p func268 ntmps268
def tL(x0:cR)(x1:Int)(x2:Int):Option Int :=Bi (fj x0) λv2=>If ((((decide (x1<0))||(decide (v2<=x1)))||(decide (x2<0)))||(decide (v2<=x2))) (some 0)<|fO (E:=Int) () 34 [] [0,1,2,32,33] [] i2 i2 [] [] m64 (x0.oW.fJ.length:Int) (λk3 _=>Bi (idx x0.oW.fJ (k3:Int)) λv6=>Bi (tu x0 x1) λv8=>Bi (gb (v6.gz.toList==v8.toList) (ByteArray.empty) (tu x0 x2)) λv10=>If ((v6.gz.toList==v8.toList)&&(v6.uJ.toList==v10.toList)) (some (.done v6.pW))<|nX [] [] (some (.next ()))) fun
  |.next _=>some 1
  |.done r=>some r
instance Qv{x0 x1 x2}:MC (tL x0 x1 x2) λr=>br prog 210 [.iv (sC x0),.I x1,.I x2] (.I r):=.p func210 ntmps210
def vD(x0:au):Option au :=Ck (dK 8 (x0.cE.length))<|wk [.z 5]<|some x0
instance ads{x0}:MC (vD x0) λr=>br prog 118 [.agg (yo x0)] (.agg (yo r)):=.p func118 ntmps118
def yR(x0:bW):Option (List au) :=Ck (kY 72 0 (x0.ba.length:Int))<|eE 9 df (au.mk (aI.mk 0 0 0 0) 0 0 []) λ_=>fL ([]:List au) 13 [] [11,12] [] (λ_ t=>(3,.row 1001)::t) (λs t=>(1001,some (.R 176 7 df s))::t) [] [(1001,9)] m64 (x0.ba.length:Int) (λk2 s4=>Bi (idx x0.ba (k2:Int)) λv6=>Bi (vD v6) λv8=>eE 20 (bA 7 df) [v8] λv9=>Ck (dK 72 (s4.length+List.length v9))<|nX [] [(1001,21)] (some (s4++v9))) λs4=>wk [.z 1001]<|some s4
instance aab{x0}:MC (yR x0) λr=>br prog 128 [.agg (zQ x0)] (.L 7 df r):=.p func128 ntmps128
def ng(x0:Int)(x1:Int)(x2:Int):Option Bool :=some ((decide (x1<=x0))&&(decide (x0<=x2)))
instance aa6{x0 x1 x2}:MC (ng x0 x1 x2) λr=>br prog 183 [.I x0,.I x1,.I x2] (.bool r):=.p func183 ntmps183
@[reducible] def iP(x0:aI)(s8:Int):Option Int :=Bi (ng x0.gA 0 7) λv3=>Bi (gb (!(!v3)) (false) (ng x0.gB 0 s8)) λv5=>Bi (gb (!((!v3)||(!v5))) (false) (ng x0.gN 0 65535)) λv7=>If (((!v3)||(!v5))||(!v7)) (some 1)<|some 0
@[reducible] def nG(x0:aI)(wN:Bool):Option Int :=If wN (nX [] [] (iP x0 7))<|nX [] [] (iP x0 0)
def xJ(x0:aI):Option Int :=If ((decide (x0.bC<1))||(decide (9<x0.bC))) (some 1)<|jn (iP x0) 4 [] [1,3] [1] (λs t=>(4,.I s)::t) i2<|If (x0.bC==1) (nX [] [] (iP x0 7))<|If (x0.bC==2) (nX [] [] (iP x0 0))<|jn (nG x0) 9 [] [1,3,4] [1] (λs t=>(19,.bool s)::t) i2<|If (x0.bC==5) (nX [] [] (nG x0 (x0.bC==5)))<|If (x0.bC==6) (nX [] [] (nG x0 (x0.bC==6)))<|nX [] [] (nG x0 (x0.bC==7))
instance XP{x0}:MC (xJ x0) λr=>br prog 181 [.agg (cU x0)] (.I r):=.p func181 ntmps181
def BL(x0:Int):Option Bool :=some ((((x0==1)||(x0==2))||(x0==3))||(x0==4))
instance adr{x0}:MC (BL x0) λr=>br prog 182 [.int .u8 x0] (.bool r):=.p func182 ntmps182
@[reducible] def ky(x0:au)(a3:Int)(rG:Int×Int×Int):Option Int :=Bi (ng x0.Cl 0 a3) λv8=>Bi (gb (!(!v8)) (false) (ng x0.gD rG.1 rG.2.1)) λv10=>If (((!v8)||(!v10))||(decide (rG.2.2<(x0.cE.length:Int)))) (some 1)<|some 0
@[reducible] def ue(x0:au)(a3:Int)(pD:Bool):Option Int :=If pD (nX [] [] (ky x0 a3 (1,200,0)))<|If (x0.cQ.bC==7) (nX [] [] (ky x0 a3 (0,200,0)))<|nX [] [] (ky x0 a3 (0,0,0))
@[reducible] def ug(x0:au)(rH:Int):Option Int :=jn (ky x0 rH) 7 [] [1,4] [1] (λs t=>(5,.I s.1)::(6,.I s.2.1)::(7,.I s.2.2)::t) i2<|If (x0.cQ.bC==1) (nX [] [] (ky x0 rH (0,0,4)))<|If (x0.cQ.bC==2) (nX [] [] (ky x0 rH (0,1,0)))<|If (x0.cQ.bC==3) (nX [] [] (ky x0 rH (1,3,0)))<|jn (ue x0 rH) 14 [] [1,4,5,6,7,20] [1] (λs t=>(27,.bool s)::t) i2<|If (x0.cQ.bC==6) (nX [] [] (ue x0 rH (x0.cQ.bC==6)))<|nX [] [] (ue x0 rH (x0.cQ.bC==9))
def vG(x0:au):Option Int :=Bi (xJ x0.cQ) λv2=>If (v2 != 0) (some v2)<|jn (ug x0) 5 [] [1,5,6,7] [1] (λs t=>(4,.I s)::t) i2<|Bi (BL x0.cQ.bC) λmA=>If mA (nX [] [] (ug x0 200))<|nX [] [] (ug x0 0)
instance adu{x0}:MC (vG x0) λr=>br prog 117 [.agg (yo x0)] (.I r):=.p func117 ntmps117
def oC(x0:cR):Option Int :=some (x0.oW.aY.length:Int)
instance TR{x0}:MC (oC x0) λr=>br prog 72 [.iv (sC x0)] (.I r):=.p func72 ntmps72
def sR(x0:cR)(x1:Int):Option Int :=Bi (jg x0 x1) λv2=>some (v2.bf.length:Int)
instance Pf{x0 x1}:MC (sR x0 x1) λr=>br prog 195 [.iv (sC x0),.I x1] (.I r):=.p func195 ntmps195
@[reducible] def lY(x0:au)(x1:cR)(s9:Int×Int):Option Int :=If ((decide (s9.1<=x0.cQ.gA))||(decide (s9.2<=x0.cQ.gB))) (some 9)<|Bi (gb (x0.cQ.bC==3) (0) (sR x1 x0.cQ.gA)) λv8=>If ((x0.cQ.bC==3)&&(decide (v8<x0.gD))) (some 9)<|some 0
@[reducible] def oK(x0:au)(x1:cR)(v4:Int)(gH:Bool):Option Int :=If gH (nX [] [] (lY x0 x1 (v4,v4)))<|nX [] [] (lY x0 x1 (v4,1))
def vF(x0:au)(x1:cR):Option Int :=Bi (vG x0) λv2=>If (v2 != 0) (some 1)<|Bi (fj x1) λv4=>jn (lY x0 x1) 4 [] [1,2] [2] (λs t=>(5,.I s.1)::(6,.I s.2)::t) i2<|If (x0.cQ.bC==1) (Bi (lC x1 x0.cQ.gA) λv11=>nX [] [] (lY x0 x1 (v4,(v11.length:Int))))<|If (x0.cQ.bC==2) (Bi (oC x1) λkG=>nX [] [] (lY x0 x1 (kG,1)))<|jn (oK x0 x1 v4) 9 [] [1,2,5,6] [2] (λs t=>(31,.bool s)::t) i2<|If (x0.cQ.bC==5) (nX [] [] (oK x0 x1 v4 (x0.cQ.bC==5)))<|If (x0.cQ.bC==6) (nX [] [] (oK x0 x1 v4 (x0.cQ.bC==6)))<|nX [] [] (oK x0 x1 v4 (x0.cQ.bC==7))
instance aac{x0 x1}:MC (vF x0 x1) λr=>br prog 130 [.agg (yo x0),.iv (sC x1)] (.I r):=.p func130 ntmps130
structure fb where
 vY:Bool
 xn:Bool
 Kc:Int
 Xw:Int
 RR:Bool
 Pd:Bool
def abq(x:fb):List DV:=[.bool x.vY,.bool x.xn,.int .i64 x.Kc,.int .i64 x.Xw,.bool x.RR,.bool x.Pd]
def fb.dv(x:fb):DV:=.agg (abq x)
structure cO where
 yh:Int
 vY:Bool
 Fg:Int
 eF:ByteArray
def abo(x:cO):List DV:=[.int .i64 x.yh,.bool x.vY,.int .i64 x.Fg,.str x.eF]
def cO.dv(x:cO):DV:=.agg (abo x)
def am1:List ByteArray:=[⟨#[97,102,116,101,114]⟩,⟨#[97,108,119,97,121,115]⟩,⟨#[97,110,100]⟩,⟨#[97,114,114,105,118,101,115]⟩,⟨#[98,111,111,108]⟩,⟨#[99,111,109,112,111,110,101,110,116]⟩,⟨#[99,111,117,110,116]⟩,⟨#[100,101,108,101,116,101]⟩,⟨#[100,111]⟩,⟨#[101,108,115,101]⟩,⟨#[101,120,105,115,116,115]⟩,⟨#[102,97,108,115,101]⟩,⟨#[102,101,116,99,104]⟩,⟨#[102,108,97,103]⟩,⟨#[102,108,101,101,116]⟩,⟨#[102,111,114,97,108,108]⟩,⟨#[104,97,115]⟩,⟨#[105,102]⟩,⟨#[105,109,112,108,105,101,115]⟩,⟨#[105,110]⟩,⟨#[105,110,116]⟩,⟨#[108,97,116,101,110,99,121]⟩,⟨#[108,105,110,107]⟩,⟨#[110,111,116]⟩,⟨#[110,111,119]⟩,⟨#[111,110]⟩,⟨#[111,110,99,101]⟩,⟨#[111,114]⟩,⟨#[112,114,101,118,105,111,117,115]⟩,⟨#[115,101,110,100]⟩,⟨#[115,105,110,99,101]⟩,⟨#[115,105,122,101]⟩,⟨#[115,116,111,112]⟩,⟨#[115,116,111,114,101]⟩,⟨#[116,97,98,108,101]⟩,⟨#[116,114,117,101]⟩,⟨#[118,97,114]⟩,⟨#[118,101,114,115,105,111,110]⟩,⟨#[119,104,105,108,101]⟩]
def tb8:List ByteArray:=[⟨#[46,46]⟩,⟨#[61,61]⟩,⟨#[33,61]⟩,⟨#[60,61]⟩,⟨#[62,61]⟩,⟨#[45,62]⟩,⟨#[123]⟩,⟨#[125]⟩,⟨#[40]⟩,⟨#[41]⟩,⟨#[91]⟩,⟨#[93]⟩,⟨#[44]⟩,⟨#[59]⟩,⟨#[58]⟩,⟨#[46]⟩,⟨#[61]⟩,⟨#[60]⟩,⟨#[62]⟩,⟨#[43]⟩,⟨#[45]⟩,⟨#[42]⟩,⟨#[47]⟩,⟨#[37]⟩,⟨#[95]⟩]
def tb9:List fb:=[(fb.mk false false 0 0 false false),(fb.mk true false 1 1 false false),(fb.mk true false 2 2 false false),(fb.mk true false 1 1 false false),(fb.mk false false 1 1 true true),(fb.mk false false 1 1 true false),(fb.mk true true 0 4 false false),(fb.mk false true 1 5 false false),(fb.mk false false 2 2 false true),(fb.mk true false 1 1 false true),(fb.mk false false 0 0 false false)]
instance:Tb 9 6 fb.dv tb9:=⟨bp,bp⟩
def abL:List cO:=[(cO.mk 0 false 0 ByteArray.empty),(cO.mk 0 false 7 ByteArray.empty),(cO.mk 0 false 7 ⟨#[116,114,117,101]⟩),(cO.mk 0 false 7 ⟨#[102,97,108,115,101]⟩),(cO.mk 0 false 7 ⟨#[110,111,119]⟩),(cO.mk 0 true 7 ByteArray.empty),(cO.mk 1 true 7 ByteArray.empty),(cO.mk 1 true 7 ⟨#[104,97,115,32]⟩),(cO.mk 0 true 7 ⟨#[115,105,122,101,32]⟩),(cO.mk 1 false 6 ⟨#[45]⟩),(cO.mk 1 false 6 ⟨#[110,111,116,32]⟩),(cO.mk 2 false 5 ⟨#[32,42,32]⟩),(cO.mk 2 false 5 ⟨#[32,47,32]⟩),(cO.mk 2 false 5 ⟨#[32,37,32]⟩),(cO.mk 2 false 4 ⟨#[32,43,32]⟩),(cO.mk 2 false 4 ⟨#[32,45,32]⟩),(cO.mk 2 false 3 ⟨#[32,61,61,32]⟩),(cO.mk 2 false 3 ⟨#[32,33,61,32]⟩),(cO.mk 2 false 3 ⟨#[32,60,32]⟩),(cO.mk 2 false 3 ⟨#[32,60,61,32]⟩),(cO.mk 2 false 3 ⟨#[32,62,32]⟩),(cO.mk 2 false 3 ⟨#[32,62,61,32]⟩),(cO.mk 2 false 2 ⟨#[32,97,110,100,32]⟩),(cO.mk 2 false 1 ⟨#[32,111,114,32]⟩)]
instance:Tb 11 4 cO.dv abL:=⟨bp,bp⟩
def xL(zfaa:(List DV)->Option Int)(x0:List DV):Option Int :=fL (x0.length:Int) 9 [] [0,8] [] (λs t=>(3,.I s)::t) i2 [] [] m64 (x0.length:Int) (λk1 s3=>Bi (idx x0 (k1:Int)) λv5=>Bi (bo.dec v5) λv6=>Bi (zfaa v6.vZ) λv9=>Bi (zfaa v6.uL) λv11=>nX [] [] (some (IntKind.wrap .i64 (s3+(IntKind.wrap .i64 (v9+v11)))))) λs3=>some s3
theorem Ef{zfaa:(List DV)->Option Int}[zhaa:∀{x0},MC (zfaa x0) λr=>br prog 349 [.L 6 lg x0] (.I r)]{x0}:MC (xL zfaa x0) λr=>br prog 349 [.L 6 lg x0] (.I r):=.p func349 ntmps349
def ot:Nat->(List DV)->Option Int
 |0,_=>none
 |fu+1,x0=>xL (ot fu) x0
instance TA(fu:Nat){x0}:MC (ot fu x0) λr=>br prog 349 [.L 6 lg x0] (.I r):=by
 induction fu generalizing x0 with
 |zero=>exact⟨λh=>dI⟩
 |succ fu ih=>exact Ef (zfaa:=ot fu)
def Db(zfab:(List DV)->Option Int)(x0:List DV):Option Int :=If ((x0.length:Int)==0) (some 0)<|fL 0 10 [] [0,9] [] (λs t=>(3,.I s)::t) i2 [] [] m64 (x0.length:Int) (λk1 s3=>Bi (idx x0 (k1:Int)) λv5=>Bi (bo.dec v5) λv6=>Bi (zfab v6.vZ) λv9=>Bi (zfab v6.uL) λv11=>nX [] [] (some (if v11>(if v9>s3 then v9 else s3)then v11 else(if v9>s3 then v9 else s3)))) λs3=>some (IntKind.wrap .i64 (s3+1))
theorem JC{zfab:(List DV)->Option Int}[zhab:∀{x0},MC (zfab x0) λr=>br prog 350 [.L 6 lg x0] (.I r)]{x0}:MC (Db zfab x0) λr=>br prog 350 [.L 6 lg x0] (.I r):=.p func350 ntmps350
def vg:Nat->(List DV)->Option Int
 |0,_=>none
 |fu+1,x0=>Db (vg fu) x0
instance abW(fu:Nat){x0}:MC (vg fu x0) λr=>br prog 350 [.L 6 lg x0] (.I r):=by
 induction fu generalizing x0 with
 |zero=>exact⟨λh=>dI⟩
 |succ fu ih=>exact JC (zfab:=vg fu)
def uy(zfac:aB->Option Int)(x0:aB):Option Int :=fL 0 8 [] [1,7] [1] (λs t=>(3,.I s)::t) i2 [] [] m64 (x0.cE.length:Int) (λk1 s3=>Bi (idx x0.cE (k1:Int)) λv5=>Bi (aB.dec v5) λv6=>Bi (zfac v6) λv9=>nX [] [] (some (if v9>s3 then v9 else s3))) λs3=>some (IntKind.wrap .i64 (s3+1))
theorem ES{zfac:aB->Option Int}[zhac:∀{x0},MC (zfac x0) λr=>br prog 352 [.agg (jQ x0)] (.I r)]{x0}:MC (uy zfac x0) λr=>br prog 352 [.agg (jQ x0)] (.I r):=.p func352 ntmps352
def nj:Nat->aB->Option Int
 |0,_=>none
 |fu+1,x0=>uy (nj fu) x0
instance UB(fu:Nat){x0}:MC (nj fu x0) λr=>br prog 352 [.agg (jQ x0)] (.I r):=by
 induction fu generalizing x0 with
 |zero=>exact⟨λh=>dI⟩
 |succ fu ih=>exact ES (zfac:=nj fu)
def lM(x0:bo):Option Bool :=fO (E:=Bool) () 10 [] [8,9] [] i2 i2 [] [] m64 (x0.js.length:Int) (λk1 _=>Bi (idx x0.js (k1:Int)) λv4=>Bi (aB.dec v4) λv5=>Bi ((nj 64) v5) λv8=>If (decide (8<v8)) (rX [] (some (.done false)))<|nX [] [] (some (.next ()))) fun
  |.next _=>rX [] (some true)
  |.done r=>some r
instance KS{x0}:MA (lM x0) prog 351 (λ_=>0) λr=>⟨[.iv (sB x0)],[],.bool r,[],[]⟩:=.b func351 ntmps351
def Ax(zfae:(List DV)->Option Bool)(x0:List DV):Option Bool :=fO (E:=Bool) () 9 [] [0,1,8] [] i2 i2 [] [] m64 (x0.length:Int) (λk1 _=>Bi (idx x0 (k1:Int)) λv4=>Bi (bo.dec v4) λv5=>Bi (cl 17 [] (lM v5)) λv8=>Bi (gb (!(!v8)) (false) (cl 25 [] (zfae v5.vZ))) λv10=>Bi (gb (!((!v8)||(!v10))) (false) (cl 34 [] (zfae v5.uL))) λv12=>If (((!v8)||(!v10))||(!v12)) (rX [] (some (.done false)))<|nX [] [] (some (.next ()))) fun
  |.next _=>rX [] (some true)
  |.done r=>some r
theorem GY{zfae:(List DV)->Option Bool}[zhae:∀{x0},MA (zfae x0) prog 286 (λ_=>0) λr=>⟨[.L 6 lg x0,.val (.func (.func 351) #[] #[])],[],.bool r,[],[]⟩]{x0}:MA (Ax zfae x0) prog 286 (λ_=>0) λr=>⟨[.L 6 lg x0,.val (.func (.func 351) #[] #[])],[],.bool r,[],[]⟩:=.b func286 ntmps286
def sG:Nat->(List DV)->Option Bool
 |0,_=>none
 |fu+1,x0=>Ax (sG fu) x0
instance YW(fu:Nat){x0}:MA (sG fu x0) prog 286 (λ_=>0) λr=>⟨[.L 6 lg x0,.val (.func (.func 351) #[] #[])],[],.bool r,[],[]⟩:=by
 induction fu generalizing x0 with
 |zero=>exact⟨λh=>dI⟩
 |succ fu ih=>exact GY (zfae:=sG fu)
def tG(x0:bG):Option Bool :=Bi (gb (!(decide (4<(x0.dY.length:Int)))) (0) ((ot 64) x0.uM)) λv2=>Bi (gb (!((decide (4<(x0.dY.length:Int)))||(decide (40<v2)))) (0) ((vg 64) x0.uM)) λv4=>If (((decide (4<(x0.dY.length:Int)))||(decide (40<v2)))||(decide (8<v4))) (some false)<|Bi (cl 21 [] ((sG 64) x0.uM)) λv6=>some v6
instance Qh{x0}:MC (tG x0) λr=>br prog 283 [.agg (Bb x0)] (.bool r):=.p func283 ntmps283
def rJ(x0:bu):Option Bool :=fO (E:=Bool) () 14 [] [1,12,13] [] i2 i2 [] [] m64 (x0.aG.length:Int) (λk1 _=>Bi (idx x0.aG (k1:Int)) λv4=>fO (E:=Bool) () 21 [] [1,12,13,14,19,20] [] i2 i2 [] [] m64 (v4.bf.length:Int) (λk5 _=>Bi (idx v4.bf (k5:Int)) λv8=>fO (E:=Bool) () 28 [] [1,12,13,14,19,20,21,26,27] [] i2 i2 [] [] m64 (v8.bR.length:Int) (λk9 _=>Bi (idx v8.bR (k9:Int)) λv12=>Bi (tG v12) λll=>If (!ll) (rX [] (some (.done false)))<|nX [] [] (some (.next ()))) fun
    |.next _=>nX [] [] (some (.next ()))
    |.done r=>some (.done r)) fun
   |.next _=>nX [] [] (some (.next ()))
   |.done r=>some (.done r)) fun
  |.next _=>rX [] (some true)
  |.done r=>some r
instance Ml{x0}:MA (rJ x0) prog 282 (λ_=>0) λr=>⟨[.agg (tF x0),.val (.func (.func 283) #[] #[])],[],.bool r,[],[]⟩:=.b func282 ntmps282
def Bm(x0:bu):Option Bool :=If (((((x0.aG.length:Int)==0)||(decide (8<(x0.aG.length:Int))))||(decide (8<(x0.aY.length:Int))))||(decide (64<(x0.fJ.length:Int)))) (some false)<|fO (E:=Bool) () 36 [] [1,34,35] [1] i2 i2 [] [] m64 (x0.aG.length:Int) (λk1 _=>Bi (idx x0.aG (k1:Int)) λv6=>If (((decide (8<(v6.eG.length:Int)))||((v6.bf.length:Int)==0))||(decide (3<(v6.bf.length:Int)))) (some (.done false))<|mv (Vg DV.bool) []<|fL ([]:List (ByteArray×Bool)) 59 [] [1,34,35,36,57,58] [1] (λ_ t=>(7,.row 1001)::t) (λs t=>(1001,some (.mp (Vg DV.bool s)))::t) [] [(1001,55)] m64 (v6.bf.length:Int) (λk7 s9=>Bi (idx v6.bf (k7:Int)) λv11=>fL s9 66 [] [1,34,35,36,57,58,59,64,65] [1] (λ_ t=>(7,.row 1002)::t) (λs t=>(1002,some (.mp (Vg DV.bool s)))::t) [] [(1002,1001)] m64 (v11.bR.length:Int) (λBZ rH=>Bi (idx v11.bR (BZ:Int)) λmA=>eE 1 DV.bool true λ_=>nX [] [] (some (FZ rH mA.bx true))) λrH=>nX [] [(1001,1002)] (some rH)) λs9=>If (decide (8<(s9.length:Int))) (some (.done false))<|nX [] [] (some (.next ()))) fun
  |.next _=>Bi (cl 80 [] (rJ x0)) λv4=>some v4
  |.done r=>some r
instance abT{x0}:MC (Bm x0) λr=>br prog 221 [.agg (tF x0)] (.bool r):=.p func221 ntmps221
def BD(x0:Int):Option Bool :=some (((decide (97<=x0))&&(decide (x0<=122)))||((decide (65<=x0))&&(decide (x0<=90))))
instance acF{x0}:MC (BD x0) λr=>br prog 384 [.int .u8 x0] (.bool r):=.p func384 ntmps384
def zw(x0:Int):Option Bool :=some ((decide (48<=x0))&&(decide (x0<=57)))
instance af7{x0}:MC (zw x0) λr=>br prog 388 [.int .u8 x0] (.bool r):=.p func388 ntmps388
def Ga(x0:Int):Option Bool :=Bi (BD x0) λv2=>Bi (gb (!v2) (false) (zw x0)) λv4=>some ((v2||v4)||(x0==95))
instance acG{x0}:MC (Ga x0) λr=>br prog 386 [.int .u8 x0] (.bool r):=.p func386 ntmps386
def Dm(x0:ByteArray):Option Int :=wL (E:=Int) 0 [] [0,1] [] (λs t=>(5,.I s)::t) i2 [] [] (λs2=>Bi (gb (decide (s2<(ByteArray.size x0:Int))) 0 (Bp x0 s2)) λv4=>Bi (gb (decide (s2<(ByteArray.size x0:Int))) (false) (Ga v4)) λv6=>If ((decide (s2<(ByteArray.size x0:Int)))&&v6) (nX [] [] (some (.next (IntKind.wrap .i64 (s2+1)))))<|some (.done s2)) λe7=>rX [] (some e7)
instance ZA{x0}:MA (Dm x0) prog 385 (λ_=>0) λr=>⟨[.str x0,.val (.func (.func 386) #[] #[])],[],.I r,[],[]⟩:=.b func385 ntmps385
def Ez(x0:ByteArray):Option Bool :=fO (E:=Bool) () 6 [] [0,5] [] i2 i2 [] [] m64 39 (λk1 _=>Bi (idx am1 (k1:Int)) λv4=>eE 8 DV.str v4 λ_=>eb 8 am1<|If (v4.toList==x0.toList) (some (.done true))<|nX [] [] (some (.next ()))) fun
  |.next _=>some false
  |.done r=>some r
instance aa3{x0}:MC (Ez x0) λr=>br prog 387 [.str x0] (.bool r):=.p func387 ntmps387
def Ci(x0:ByteArray):Option Int :=wL (E:=Int) 0 [] [0,1] [] (λs t=>(5,.I s)::t) i2 [] [] (λs2=>Bi (gb (decide (s2<(ByteArray.size x0:Int))) 0 (Bp x0 s2)) λv4=>Bi (gb (decide (s2<(ByteArray.size x0:Int))) (false) (zw v4)) λv6=>If ((decide (s2<(ByteArray.size x0:Int)))&&v6) (nX [] [] (some (.next (IntKind.wrap .i64 (s2+1)))))<|some (.done s2)) λe7=>rX [] (some e7)
instance Xo{x0}:MA (Ci x0) prog 385 (λ_=>0) λr=>⟨[.str x0,.val (.func (.func 388) #[] #[])],[],.I r,[],[]⟩:=.b func385 ntmps385
def pV(x0:ByteArray)(x1:ByteArray):Option Bool :=Ck ((decide ((ByteArray.size x1:Int)<=(ByteArray.size x0:Int)))=true->fC (ByteArray.size x0) 0 (ByteArray.size x1:Int))<|some ((decide ((ByteArray.size x1:Int)<=(ByteArray.size x0:Int)))&&((ByteArray.extract x0 (Int.toNat 0) (Int.toNat (ByteArray.size x1:Int))).toList==x1.toList))
instance Gg{x0 x1}:MC (pV x0 x1) λr=>br prog 411 [.str x0,.str x1] (.bool r):=.p func411 ntmps411
def zh(x0:ByteArray)(x1:ByteArray):Option Bool :=Bi (pV x0 x1) λv2=>some v2
instance TC{x0 x1}:MC (zh x0 x1) λr=>br prog 389 [.str x0,.str x1] (.bool r):=.p func389 ntmps389
@[reducible] def wX(x0:ByteArray)(s1:Unit):Option (Int×Int) :=some (5,(ByteArray.size x0:Int))
def JW(x0:ByteArray):Option (Int×Int) :=jn (wX x0) 1 [] [0] [] i2 i2<|Bi (Bp x0 0) λv3=>Bi (BD v3) λv5=>If v5 (Bi (cl 25 [] (Dm x0)) λv7=>Ck (fC (ByteArray.size x0) 0 v7)<|Bi (Ez (ByteArray.extract x0 (Int.toNat 0) (Int.toNat v7))) λv10=>If v10 (some (2,v7))<|If (decide (v7<=12)) (some (1,v7))<|nX [] [] (wX x0 ()))<|Bi (zw v3) λv12=>If v12 (Bi (cl 38 [] (Ci x0)) λll=>If ((ll==1)||(v3 != 48)) (some (3,ll))<|nX [] [] (wX x0 ()))<|fO (E:=Int×Int) () 12 [] [0,11] [] i2 i2 [] [] m64 25 (λk15 _=>Bi (idx tb8 (k15:Int)) λlI=>eE 14 DV.str lI λ_=>eb 14 tb8<|Bi (zh x0 lI) λv20=>If v20 (some (.done (4,(ByteArray.size lI:Int))))<|nX [] [] (some (.next ()))) fun
  |.next _=>nX [] [] (wX x0 ())
  |.done r=>some r
instance ahs{x0}:MC (JW x0) λr=>br prog 353 [.str x0] (.gh [.int .u8 r.1,.I r.2]):=.p func353 ntmps353
def db(x0:ByteArray):Option Bool :=If (x0.toList==ByteArray.empty.toList) (some false)<|Bi (JW x0) λv2=>some ((v2.1==1)&&(v2.2==(ByteArray.size x0:Int)))
instance acH{x0}:MC (db x0) λr=>br prog 284 [.str x0] (.bool r):=.p func284 ntmps284
def ly(x0:Int):Option (fb×Bool) :=If ((decide (x0<1))||(decide (10<x0))) (some ((fb.mk false false 0 0 false false),false))<|Bi (idx tb9 x0) λv2=>some (v2,true)
instance Ok{x0}:MC (ly x0) λr=>br prog 354 [.int .u8 x0] (.gh [.agg (abq r.1),.bool r.2]):=.p func354 ntmps354
def mi(x0:Int):Option (cO×Bool) :=If ((decide (x0<1))||(decide (23<x0))) (some ((cO.mk 0 false 0 ByteArray.empty),false))<|Bi (idx abL x0) λv2=>some (v2,true)
instance WI{x0}:MC (mi x0) λr=>br prog 391 [.int .u8 x0] (.gh [.agg (abo r.1),.bool r.2]):=.p func391 ntmps391
def qu(x0:aB):Option Bool :=Bi (mi x0.cZ) λv2=>Bi (gb (!(!v2.1.vY)) (false) (db x0.bx)) λv4=>rX [] (some ((!v2.1.vY)||v4))
instance QV{x0}:MA (qu x0) prog 356 (λ_=>0) λr=>⟨[.iv (jQ x0)],[],.bool r,[],[]⟩:=.b func356 ntmps356
def sH(zfav:aB->Option Bool)(x0:aB):Option Bool :=Bi (cl 8 [] (qu x0)) λv2=>If (!v2) (rX [] (some false))<|fO (E:=Bool) () 15 [] [0,1,14] [] i2 i2 [] [] m64 (x0.cE.length:Int) (λk3 _=>Bi (idx x0.cE (k3:Int)) λv6=>Bi (aB.dec v6) λv7=>Bi (cl 25 [] (zfav v7)) λv10=>If (!v10) (rX [] (some (.done false)))<|nX [] [] (some (.next ()))) fun
  |.next _=>rX [] (some true)
  |.done r=>some r
theorem Da{zfav:aB->Option Bool}[zhav:∀{x0},MA (zfav x0) prog 390 (λ_=>0) λr=>⟨[.iv (jQ x0),.val (.func (.func 356) #[] #[])],[],.bool r,[],[]⟩]{x0}:MA (sH zfav x0) prog 390 (λ_=>0) λr=>⟨[.iv (jQ x0),.val (.func (.func 356) #[] #[])],[],.bool r,[],[]⟩:=.b func390 ntmps390
def kV:Nat->aB->Option Bool
 |0,_=>none
 |fu+1,x0=>sH (kV fu) x0
instance QX(fu:Nat){x0}:MA (kV fu x0) prog 390 (λ_=>0) λr=>⟨[.iv (jQ x0),.val (.func (.func 356) #[] #[])],[],.bool r,[],[]⟩:=by
 induction fu generalizing x0 with
 |zero=>exact⟨λh=>dI⟩
 |succ fu ih=>exact Da (zfav:=kV fu)
def ub(x0:bo):Option Bool :=fO (E:=Bool) () 11 [] [0,1,10] [] i2 i2 [] [] m64 (x0.js.length:Int) (λk1 _=>Bi (idx x0.js (k1:Int)) λv4=>Bi (aB.dec v4) λv5=>Bi (cl 21 [] ((kV 64) v5)) λv8=>If (!v8) (rX [] (some (.done false)))<|nX [] [] (some (.next ()))) fun
  |.next _=>rX [] (some true)
  |.done r=>some r
instance WC{x0}:MA (ub x0) prog 355 (λ_=>0) λr=>⟨[.iv (sB x0),.val (.func (.func 356) #[] #[])],[],.bool r,[],[]⟩:=.b func355 ntmps355
def qt(x0:bo):Option Bool :=Bi (ly x0.bC) λv2=>Bi (gb v2.1.vY (false) (db x0.bx)) λv4=>Bi (gb ((!(v2.1.vY&&(!v4)))&&v2.1.xn) (false) (db x0.bU)) λv6=>If ((v2.1.vY&&(!v4))||(v2.1.xn&&(!v6))) (rX [] (some false))<|Bi (cl 36 [] (ub x0)) λv8=>rX [] (some v8)
instance QU{x0}:MA (qt x0) prog 287 (λ_=>0) λr=>⟨[.iv (sB x0)],[],.bool r,[],[]⟩:=.b func287 ntmps287
def zg(zfay:(List DV)->Option Bool)(x0:List DV):Option Bool :=fO (E:=Bool) () 9 [] [0,1,8] [] i2 i2 [] [] m64 (x0.length:Int) (λk1 _=>Bi (idx x0 (k1:Int)) λv4=>Bi (bo.dec v4) λv5=>Bi (cl 17 [] (qt v5)) λv8=>Bi (gb (!(!v8)) (false) (cl 25 [] (zfay v5.vZ))) λv10=>Bi (gb (!((!v8)||(!v10))) (false) (cl 34 [] (zfay v5.uL))) λv12=>If (((!v8)||(!v10))||(!v12)) (rX [] (some (.done false)))<|nX [] [] (some (.next ()))) fun
  |.next _=>rX [] (some true)
  |.done r=>some r
theorem FK{zfay:(List DV)->Option Bool}[zhay:∀{x0},MA (zfay x0) prog 286 (λ_=>0) λr=>⟨[.L 6 lg x0,.val (.func (.func 287) #[] #[])],[],.bool r,[],[]⟩]{x0}:MA (zg zfay x0) prog 286 (λ_=>0) λr=>⟨[.L 6 lg x0,.val (.func (.func 287) #[] #[])],[],.bool r,[],[]⟩:=.b func286 ntmps286
def qY:Nat->(List DV)->Option Bool
 |0,_=>none
 |fu+1,x0=>zg (qY fu) x0
instance WH(fu:Nat){x0}:MA (qY fu x0) prog 286 (λ_=>0) λr=>⟨[.L 6 lg x0,.val (.func (.func 287) #[] #[])],[],.bool r,[],[]⟩:=by
 induction fu generalizing x0 with
 |zero=>exact⟨λh=>dI⟩
 |succ fu ih=>exact FK (zfay:=qY fu)
def yt(x0:bG):Option Bool :=Bi (db x0.bx) λv2=>fL v2 12 [] [1,10,11] [1] (λs t=>(3,.bool s)::t) i2 [] [] m64 (x0.dY.length:Int) (λk3 s5=>Bi (idx x0.dY (k3:Int)) λv9=>Bi (gb s5 (false) (db v9)) λv11=>nX [] [] (some (s5&&v11))) λs5=>Bi (gb s5 (false) (cl 26 [] ((qY 64) x0.uM))) λv7=>some (s5&&v7)
instance YV{x0}:MC (yt x0) λr=>br prog 285 [.agg (Bb x0)] (.bool r):=.p func285 ntmps285
def qy(x0:bu):Option Bool :=fO (E:=Bool) () 14 [] [1,12,13] [] i2 i2 [] [] m64 (x0.aG.length:Int) (λk1 _=>Bi (idx x0.aG (k1:Int)) λv4=>fO (E:=Bool) () 21 [] [1,12,13,14,19,20] [] i2 i2 [] [] m64 (v4.bf.length:Int) (λk5 _=>Bi (idx v4.bf (k5:Int)) λv8=>fO (E:=Bool) () 28 [] [1,12,13,14,19,20,21,26,27] [] i2 i2 [] [] m64 (v8.bR.length:Int) (λk9 _=>Bi (idx v8.bR (k9:Int)) λv12=>Bi (yt v12) λll=>If (!ll) (rX [] (some (.done false)))<|nX [] [] (some (.next ()))) fun
    |.next _=>nX [] [] (some (.next ()))
    |.done r=>some (.done r)) fun
   |.next _=>nX [] [] (some (.next ()))
   |.done r=>some (.done r)) fun
  |.next _=>rX [] (some true)
  |.done r=>some r
instance Ll{x0}:MA (qy x0) prog 282 (λ_=>0) λr=>⟨[.agg (tF x0),.val (.func (.func 285) #[] #[])],[],.bool r,[],[]⟩:=.b func282 ntmps282
def Bn(x0:bu):Option Bool :=Bi (db x0.bx) λv2=>fL v2 18 [] [1,16,17] [1] (λs t=>(3,.bool s)::t) i2 [] [] m64 (x0.aY.length:Int) (λk3 s5=>Bi (idx x0.aY (k3:Int)) λCJ=>Bi (gb s5 (false) (db CJ.bx)) λCt=>nX [] [] (some (s5&&Ct))) λs5=>fL s5 32 [] [1,30,31] [1] (λs t=>(3,.bool s)::t) i2 [] [] m64 (x0.fJ.length:Int) (λk6 s8=>Bi (idx x0.fJ (k6:Int)) λxz=>Bi (gb s8 (false) (db xz.gz)) λv28=>Bi (gb (s8&&v28) (false) (db xz.uJ)) λv30=>nX [] [] (some ((s8&&v28)&&v30))) λs8=>fL s8 51 [] [1,49,50] [1] (λs t=>(3,.bool s)::t) i2 [] [] m64 (x0.aG.length:Int) (λk9 rG=>Bi (idx x0.aG (k9:Int)) λlL=>Bi (gb rG (false) (db lL.bx)) λoi=>fL (rG&&oi) 64 [] [1,49,50,51,62,63] [1] (λs t=>(3,.bool s)::t) i2 [] [] m64 (lL.eG.length:Int) (λk18 CL=>Bi (idx lL.eG (k18:Int)) λuQ=>Bi (gb CL (false) (db uQ.bx)) λv24=>nX [] [] (some (CL&&v24))) λCL=>nX [] [] (some CL)) λrG=>Bi (gb rG (false) (cl 79 [] (qy x0))) λkG=>some (rG&&kG)
instance abU{x0}:MC (Bn x0) λr=>br prog 222 [.agg (tF x0)] (.bool r):=.p func222 ntmps222
def Aw(x0:dA):Option Bool :=If (x0.sQ==1) (some (x0.uK != (-9223372036854775808)))<|If (x0.sQ==2) (some ((x0.uK==0)||(x0.uK==1)))<|If (x0.sQ==3) (some (x0.uK==0))<|some false
instance UA{x0}:MC (Aw x0) λr=>br prog 288 [.agg (NN x0)] (.bool r):=.p func288 ntmps288
@[reducible] def va(x0:aB)(s3:Unit):Option Bool :=rX [] (some (x0.gN==0))
@[reducible] def mG(x0:aB)(s5:Bool):Option Bool :=If s5 (rX [] (some false))<|If (x0.cZ==1) (rX [] (some (decide (0<=x0.gN))))<|nX [] [] (va x0 ())
def pa(x0:aB):Option Bool :=Bi (mi x0.cZ) λv2=>jn (va x0) 10002 [] [0] [] i2 i2<|jn (mG x0) 2 [] [0] [] (λs t=>(13,.bool s)::t) i2<|If (!v2.2) (nX [] [] (mG x0 (!v2.2)))<|If ((x0.cE.length:Int) != v2.1.yh) (nX [] [] (mG x0 ((x0.cE.length:Int) != v2.1.yh)))<|nX [] [] (mG x0 ((!v2.1.vY)&&(!(x0.bx.toList==ByteArray.empty.toList))))
instance Qj{x0}:MA (pa x0) prog 357 (λ_=>0) λr=>⟨[.iv (jQ x0)],[],.bool r,[],[]⟩:=.b func357 ntmps357
def rK(zfbe:aB->Option Bool)(x0:aB):Option Bool :=Bi (cl 8 [] (pa x0)) λv2=>If (!v2) (rX [] (some false))<|fO (E:=Bool) () 15 [] [0,1,14] [] i2 i2 [] [] m64 (x0.cE.length:Int) (λk3 _=>Bi (idx x0.cE (k3:Int)) λv6=>Bi (aB.dec v6) λv7=>Bi (cl 25 [] (zfbe v7)) λv10=>If (!v10) (rX [] (some (.done false)))<|nX [] [] (some (.next ()))) fun
  |.next _=>rX [] (some true)
  |.done r=>some r
theorem Cx{zfbe:aB->Option Bool}[zhbe:∀{x0},MA (zfbe x0) prog 390 (λ_=>0) λr=>⟨[.iv (jQ x0),.val (.func (.func 357) #[] #[])],[],.bool r,[],[]⟩]{x0}:MA (rK zfbe x0) prog 390 (λ_=>0) λr=>⟨[.iv (jQ x0),.val (.func (.func 357) #[] #[])],[],.bool r,[],[]⟩:=.b func390 ntmps390
def kq:Nat->aB->Option Bool
 |0,_=>none
 |fu+1,x0=>rK (kq fu) x0
instance Qk(fu:Nat){x0}:MA (kq fu x0) prog 390 (λ_=>0) λr=>⟨[.iv (jQ x0),.val (.func (.func 357) #[] #[])],[],.bool r,[],[]⟩:=by
 induction fu generalizing x0 with
 |zero=>exact⟨λh=>dI⟩
 |succ fu ih=>exact Cx (zfbe:=kq fu)
def tt(x0:bo):Option Bool :=fO (E:=Bool) () 11 [] [0,1,10] [] i2 i2 [] [] m64 (x0.js.length:Int) (λk1 _=>Bi (idx x0.js (k1:Int)) λv4=>Bi (aB.dec v4) λv5=>Bi (cl 21 [] ((kq 64) v5)) λv8=>If (!v8) (rX [] (some (.done false)))<|nX [] [] (some (.next ()))) fun
  |.next _=>rX [] (some true)
  |.done r=>some r
instance Uz{x0}:MA (tt x0) prog 355 (λ_=>0) λr=>⟨[.iv (sB x0),.val (.func (.func 357) #[] #[])],[],.bool r,[],[]⟩:=.b func355 ntmps355
@[reducible] def qv(x0:bo)(s5:Unit):Option Bool :=Bi (cl 75 [] (tt x0)) λv4=>rX [] (some v4)
@[reducible] def mE(x0:bo)(s9:Bool):Option Bool :=If s9 (rX [] (some false))<|nX [] [] (qv x0 ())
@[reducible] def mF(x0:bo)(v2:fb×Bool)(wN:Bool):Option Bool :=If wN (rX [] (some false))<|jn (mE x0) 10 [] [0] [] (λs t=>(51,.bool s)::t) i2<|If ((!v2.1.RR)&&(decide (0<(x0.vZ.length:Int)))) (nX [] [] (mE x0 ((!v2.1.RR)&&(decide (0<(x0.vZ.length:Int))))))<|nX [] [] (mE x0 ((!v2.1.Pd)&&(decide (0<(x0.uL.length:Int)))))
@[reducible] def jT(x0:bo)(v2:fb×Bool)(rG:Bool):Option Bool :=If rG (rX [] (some false))<|jn (mF x0 v2) 7 [] [0,3] [3] (λs t=>(30,.bool s)::t) i2<|If ((!v2.1.vY)&&(!(x0.bx.toList==ByteArray.empty.toList))) (nX [] [] (mF x0 v2 ((!v2.1.vY)&&(!(x0.bx.toList==ByteArray.empty.toList)))))<|nX [] [] (mF x0 v2 ((!v2.1.xn)&&(!(x0.bU.toList==ByteArray.empty.toList))))
def oZ(x0:bo):Option Bool :=Bi (ly x0.bC) λv2=>jn (qv x0) 2 [] [0] [] i2 i2<|jn (jT x0 v2) 3 [] [0,3] [3] (λs t=>(19,.bool s)::t) i2<|If (!v2.2) (nX [] [] (jT x0 v2 (!v2.2)))<|If (decide ((x0.js.length:Int)<v2.1.Kc)) (nX [] [] (jT x0 v2 (decide ((x0.js.length:Int)<v2.1.Kc))))<|nX [] [] (jT x0 v2 (decide (v2.1.Xw<(x0.js.length:Int))))
instance Qi{x0}:MA (oZ x0) prog 290 (λ_=>0) λr=>⟨[.iv (sB x0)],[],.bool r,[],[]⟩:=.b func290 ntmps290
def zf(zfbh:(List DV)->Option Bool)(x0:List DV):Option Bool :=fO (E:=Bool) () 9 [] [0,1,8] [] i2 i2 [] [] m64 (x0.length:Int) (λk1 _=>Bi (idx x0 (k1:Int)) λv4=>Bi (bo.dec v4) λv5=>Bi (cl 17 [] (oZ v5)) λv8=>Bi (gb (!(!v8)) (false) (cl 25 [] (zfbh v5.vZ))) λv10=>Bi (gb (!((!v8)||(!v10))) (false) (cl 34 [] (zfbh v5.uL))) λv12=>If (((!v8)||(!v10))||(!v12)) (rX [] (some (.done false)))<|nX [] [] (some (.next ()))) fun
  |.next _=>rX [] (some true)
  |.done r=>some r
theorem FJ{zfbh:(List DV)->Option Bool}[zhbh:∀{x0},MA (zfbh x0) prog 286 (λ_=>0) λr=>⟨[.L 6 lg x0,.val (.func (.func 290) #[] #[])],[],.bool r,[],[]⟩]{x0}:MA (zf zfbh x0) prog 286 (λ_=>0) λr=>⟨[.L 6 lg x0,.val (.func (.func 290) #[] #[])],[],.bool r,[],[]⟩:=.b func286 ntmps286
def qX:Nat->(List DV)->Option Bool
 |0,_=>none
 |fu+1,x0=>zf (qX fu) x0
instance WG(fu:Nat){x0}:MA (qX fu x0) prog 286 (λ_=>0) λr=>⟨[.L 6 lg x0,.val (.func (.func 290) #[] #[])],[],.bool r,[],[]⟩:=by
 induction fu generalizing x0 with
 |zero=>exact⟨λh=>dI⟩
 |succ fu ih=>exact FJ (zfbh:=qX fu)
def xE(x0:bG):Option Bool :=Bi (cl 5 [] ((qX 64) x0.uM)) λv2=>some v2
instance WD{x0}:MC (xE x0) λr=>br prog 289 [.agg (Bb x0)] (.bool r):=.p func289 ntmps289
def qx(x0:bu):Option Bool :=fO (E:=Bool) () 14 [] [1,12,13] [] i2 i2 [] [] m64 (x0.aG.length:Int) (λk1 _=>Bi (idx x0.aG (k1:Int)) λv4=>fO (E:=Bool) () 21 [] [1,12,13,14,19,20] [] i2 i2 [] [] m64 (v4.bf.length:Int) (λk5 _=>Bi (idx v4.bf (k5:Int)) λv8=>fO (E:=Bool) () 28 [] [1,12,13,14,19,20,21,26,27] [] i2 i2 [] [] m64 (v8.bR.length:Int) (λk9 _=>Bi (idx v8.bR (k9:Int)) λv12=>Bi (xE v12) λll=>If (!ll) (rX [] (some (.done false)))<|nX [] [] (some (.next ()))) fun
    |.next _=>nX [] [] (some (.next ()))
    |.done r=>some (.done r)) fun
   |.next _=>nX [] [] (some (.next ()))
   |.done r=>some (.done r)) fun
  |.next _=>rX [] (some true)
  |.done r=>some r
instance Lk{x0}:MA (qx x0) prog 282 (λ_=>0) λr=>⟨[.agg (tF x0),.val (.func (.func 289) #[] #[])],[],.bool r,[],[]⟩:=.b func282 ntmps282
def zT(x0:bu):Option Bool :=fO (E:=Bool) () 12 [] [1,10,11] [1] i2 i2 [] [] m64 (x0.fJ.length:Int) (λk1 _=>Bi (idx x0.fJ (k1:Int)) λmA=>If ((decide (mA.pW<1))||(decide (50<mA.pW))) (some (.done false))<|nX [] [] (some (.next ()))) fun
  |.next _=>fO (E:=Bool) () 28 [] [1,26,27] [1] i2 i2 [] [] m64 (x0.aG.length:Int) (λk3 _=>Bi (idx x0.aG (k3:Int)) λv8=>fO (E:=Bool) () 35 [] [1,26,27,28,33,34] [1] i2 i2 [] [] m64 (v8.eG.length:Int) (λk9 _=>Bi (idx v8.eG (k9:Int)) λv12=>Bi (Aw v12) λll=>If (!ll) (some (.done false))<|nX [] [] (some (.next ()))) fun
     |.next _=>nX [] [] (some (.next ()))
     |.done r=>some (.done r)) fun
    |.next _=>Bi (cl 45 [] (qx x0)) λv6=>some v6
    |.done r=>some r
  |.done r=>some r
instance aaP{x0}:MC (zT x0) λr=>br prog 223 [.agg (tF x0)] (.bool r):=.p func223 ntmps223
def vh(x0:bu):Option Int :=Bi (Bm x0) λv2=>If (!v2) (some 3)<|Bi (Bn x0) λv4=>If (!v4) (some 9)<|Bi (zT x0) λv6=>If (!v6) (some 6)<|some 0
instance abX{x0}:MC (vh x0) λr=>br prog 163 [.agg (tF x0)] (.I r):=.p func163 ntmps163
end Go.Proofs.YtaafmkmdfcgeaaaGreatDoor
namespace Go.Proofs.YtaafmkmdfcgeaaaGreatDoor
open Go.Proofs.Tryz
theorem dD{α:Type}{o:Option α}{v:α}(h:Wp o (· = v)):o=some v:=by obtain⟨_,e,rfl⟩:=h;exact e
theorem pG{α:Type}{o:Option α}{v:α}(h:o=some v):Wp o (· = v):=⟨v,h,rfl⟩
theorem jK{α β:Type}{c:Bool}{z:α}{o:Option α}{v:α}{f:α->Option β}{Q:β->Prop}(hc:c=true)(h:o=some v)(g:Wp (f v) Q):Wp (Bi (gb c z o) f) Q:=by
 subst hc;exact aF (x:=v) (by unfold gb;exact h) g
structure HB(C:SN):Prop where
 i:C.I<=3
 t:C.T<=1
 f:C.F<=2
 p:C.Pn<=2
 al:C.gw.length<=3
 ar:∀r∈C.gw,r.length<=3
theorem OT{i:Nat}(h:i<3):db (nm 120 i)=some true:=by
 match i,h with
 |0,_=>show db (nm 120 0)=some true;kernel_rfl
 |1,_=>show db (nm 120 1)=some true;kernel_rfl
 |2,_=>show db (nm 120 2)=some true;kernel_rfl
theorem Vd{i:Nat}(h:i<3):db (nm 104 i)=some true:=by
 match i,h with
 |0,_=>show db (nm 104 0)=some true;kernel_rfl
 |1,_=>show db (nm 104 1)=some true;kernel_rfl
 |2,_=>show db (nm 104 2)=some true;kernel_rfl
theorem acw{i:Nat}(h:i<2):db (nm 112 i)=some true:=by
 match i,h with
 |0,_=>show db (nm 112 0)=some true;kernel_rfl
 |1,_=>show db (nm 112 1)=some true;kernel_rfl
theorem acx{i:Nat}(h:i<2):db (nm 102 i)=some true:=by
 match i,h with
 |0,_=>show db (nm 102 0)=some true;kernel_rfl
 |1,_=>show db (nm 102 1)=some true;kernel_rfl
theorem Ve:db (nm 98 0)=some true:=bp
theorem Hh:db (nm 116 0)=some true:=bp
theorem XH{i:Nat}(h:i<3):db (cn i)=some true:=by
 match i,h with
 |0,_=>show db (cn 0)=some true;kernel_rfl
 |1,_=>show db (cn 1)=some true;kernel_rfl
 |2,_=>show db (cn 2)=some true;kernel_rfl
theorem an6:db ⟨#[102,108,101,101,116,49]⟩=some true:=bp
theorem op5{op:Int}(a:Int)(h:a<=op)(k:op<=a+5):op=a∨op=a+1∨op=a+2∨op=a+3∨op=a+4∨op=a+5:=ah
def Zb(op:Int):cO:=(abL[op.toNat]?).getD ⟨0,false,0,ByteArray.empty⟩
theorem Oo{op:Int}(h:1<=op∧op<=23):mi op=some (Zb op,true):=by
 unfold mi;refine dD (aq (λhb=>?_) (λ_=>?_))
 .simp at hb;omega
 .obtain⟨j,rfl⟩:=Int.eq_ofNat_of_zero_le (show 0<=op by omega)
  have hj:j<abL.length:=by show j<24;omega
  refine aF (fW _ _ |>.trans (List.getElem?_eq_getElem hj)) (aj ?_);unfold Zb;rw[Int.toNat_natCast,List.getElem?_eq_getElem hj];rfl
structure ak7(op:Int)(s:ByteArray)(n:Int)(c:Nat):Prop where
 ops:(Zb op).yh=(c:Int)
 FY:((Zb op).vY=true∧db s=some true)∨((Zb op).vY=false∧s=ByteArray.empty)
 lit:op=1->0<=n
 z:op≠1->n=0
theorem Sh.ok{C:SN}{t u:Bool}{op n:Int}{s:ByteArray}{c:Nat}(h:Sh C t op s n u c)(hC:HB C):ak7 op s n c:=by
 have h1:=hC.i;have h2:=hC.t;have h3:=hC.f;have h4:=hC.p;cases h with
 |lit a b=>exact⟨rfl,.inr ⟨rfl,rfl⟩,λ_=>a,λh=>absurd rfl h⟩
 |now=>exact⟨rfl,.inr ⟨rfl,rfl⟩,aV,λ_=>rfl⟩
 |var a=>exact⟨rfl,.inl ⟨rfl,OT ah⟩,aV,λ_=>rfl⟩
 |par a=>exact⟨rfl,.inl ⟨rfl,acw ah⟩,aV,λ_=>rfl⟩
 |get a=>exact⟨rfl,.inl ⟨rfl,Hh⟩,aV,λ_=>rfl⟩
 |size a=>exact⟨rfl,.inl ⟨rfl,Hh⟩,aV,λ_=>rfl⟩
 |neg=>exact⟨rfl,.inr ⟨rfl,rfl⟩,aV,λ_=>rfl⟩
 |bin a b=>rcases op5 11 a ah with rfl|rfl|rfl|rfl|rfl|rfl <;> first|exact⟨rfl,.inr ⟨rfl,rfl⟩,aV,λ_=>rfl⟩ | omega
 |tf a b=>rcases op5 2 a ah with rfl|rfl|rfl|rfl|rfl|rfl <;> first|exact⟨rfl,.inr ⟨rfl,rfl⟩,aV,λ_=>rfl⟩ | omega
 |b0=>exact⟨rfl,.inl ⟨rfl,Ve⟩,aV,λ_=>rfl⟩
 |flag a=>exact⟨rfl,.inl ⟨rfl,acx ah⟩,aV,λ_=>rfl⟩
 |has a=>exact⟨rfl,.inl ⟨rfl,Hh⟩,aV,λ_=>rfl⟩
 |not=>exact⟨rfl,.inr ⟨rfl,rfl⟩,aV,λ_=>rfl⟩
 |con a b=>rcases op5 22 a ah with rfl|rfl|rfl|rfl|rfl|rfl <;> first|exact⟨rfl,.inr ⟨rfl,rfl⟩,aV,λ_=>rfl⟩ | omega
 |cmp a b=>rcases op5 16 a ah with rfl|rfl|rfl|rfl|rfl|rfl <;> exact⟨rfl,.inr ⟨rfl,rfl⟩,aV,λ_=>rfl⟩
theorem akF{op n:Int}{s:ByteArray}{c:Nat}{l:List DV}(h:ak7 op s n c)(ho:1<=op∧op<=23):qu ⟨op,s,n,l⟩=some true:=by
 unfold qu;refine dD (aF (Oo ho) ?_);rcases h.FY with⟨a,b⟩|⟨a,b⟩
 .exact jK (by dsimp only;rw[a];rfl) b (aL (aj aR))
 .exact av (P:=λ_=>True) (gX (λh=>by dsimp only at h;rw[a]at h;cases h) (λ_=>trivial)) (λv _=>aL (aj (by dsimp only;rw[a];rfl)))
theorem ahH{op n:Int}{s:ByteArray}{c:Nat}{l:List DV}(h:ak7 op s n c)(ho:1<=op∧op<=23)(hl:l.length=c):pa ⟨op,s,n,l⟩=some true:=by
 unfold pa;have e2:((l.length:Int) != (Zb op).yh)=false:=by rw[h.ops,hl];simp
 have e3:((!(Zb op).vY)&&(!(s.toList==ByteArray.empty.toList)))=false:=by
  rcases h.FY with⟨a,b⟩|⟨a,b⟩
  .rw[a];rfl
  .rw[a,b];simp
 refine dD (aF (Oo ho) (cX (cX (aq (λhb=>dw) (λ_=>aq (λhb=>?_) (λ_=>ay (aq (λhb=>?_) (λ_=>aq (λhb=>?_) (λhb=>?_)))))))))
 .dsimp only at hb;rw[e2]at hb;cases hb
 .dsimp only at hb;rw[e3]at hb;cases hb
 .exact aL (aj (by have:=h.lit DD;simpa using this))
 .exact ay (aL (aj (by have:=h.z DD;simpa using this)))
theorem an8{C:SN}:∀{d:Nat} {t:Bool} {x:DV},WE C Ei d t x->d<=8->∀{fu:Nat},d<=fu->∃e,aB.dec x=some e∧Wp (nj fu e) λr=>0<=r∧r<=d:=by
 intro d t x h
 induction h with
 | @node d t u op n s c l sh hl _ ih=>
  intro hd fu hf;obtain⟨g,rfl⟩:∃g,fu=g+1:=⟨fu-1,ah⟩;have hc:=sh.c2;refine⟨_,CP _,?_⟩;unfold nj uy;refine cC (λ_ r=>0<=r∧r<=(d:Int)) Ir ah ?_ ?_
  .rintro j s hj ⟨s0,s1⟩
   refine bO hj (λa a1 a2=>?_);obtain⟨e,e1,e2⟩:=ih a a2 ah (fu:=g) ah;refine aF e1 (av e2 ?_);rintro r ⟨r0,r1⟩;exact ay (aj Io)
  .rintro s ⟨s0,s1⟩
   exact aj aeC
theorem an0{C:SN}(hC:HB C):∀{d:Nat} {t:Bool} {x:DV},WE C Ei d t x->∀{fu:Nat},d<=fu->∃e,aB.dec x=some e∧kV fu e=some true:=by
 intro d t x h
 induction h with
 | @node d t u op n s c l sh hl _ ih=>
  intro fu hf;obtain⟨g,rfl⟩:∃g,fu=g+1:=⟨fu-1,ah⟩;have hc:=sh.c2;refine⟨_,CP _,?_⟩;unfold kV sH;refine dD (aF (by unfold cl;exact akF (sh.ok hC) sh.op) (aq (λhb=>dw) (λ_=>?_)));refine eS (λ_ _=>True) Ir trivial ?_ (λ_ _=>aL (aj rfl));intro j s hj _;refine bO hj (λa a1 a2=>?_);obtain⟨e,e1,e2⟩:=ih a a2 (fu:=g) ah;exact aF e1 (aF XT (aq (λhb=>dw) (λ_=>ay (aj trivial))))
theorem an7{C:SN}(hC:HB C):∀{d:Nat} {t:Bool} {x:DV},WE C Ei d t x->∀{fu:Nat},d<=fu->∃e,aB.dec x=some e∧kq fu e=some true:=by
 intro d t x h
 induction h with
 | @node d t u op n s c l sh hl _ ih=>
  intro fu hf;obtain⟨g,rfl⟩:∃g,fu=g+1:=⟨fu-1,ah⟩;have hc:=sh.c2;refine⟨_,CP _,?_⟩;unfold kq rK;refine dD (aF (by unfold cl;exact ahH (sh.ok hC) sh.op hl) (aq (λhb=>dw) (λ_=>?_)));refine eS (λ_ _=>True) Ir trivial ?_ (λ_ _=>aL (aj rfl));intro j s hj _;refine bO hj (λa a1 a2=>?_);obtain⟨e,e1,e2⟩:=ih a a2 (fu:=g) ah;exact aF e1 (aF XT (aq (λhb=>dw) (λ_=>ay (aj trivial))))
end Go.Proofs.YtaafmkmdfcgeaaaGreatDoor
