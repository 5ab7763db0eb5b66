/- Part 5 of what the claim leans on. -/
import Derived.Test.YtpeihknododmlaaGreatDoorRRv4
set_option maxRecDepth 100000
set_option maxHeartbeats 4000000
set_option linter.unusedVariables false
set_option linter.unusedSimpArgs false
namespace Go.Proofs.YtpeihknododmlaaGreatDoor
open Go.Proofs.Tryz
open Go.RowKit
attribute [local irreducible] ik du bx iM oE dL eN iJ
structure cJ where
 pB:Int
 bo:Int
 pd:Int
 gN:Int
 kV:Int
 bM:Int
 bR:List Int
def CM(x:cJ):List DV:=[.int .u8 x.pB,.int .i64 x.bo,.int .i64 x.pd,.int .i64 x.gN,.int .i64 x.kV,.int .i64 x.bM,.sl 1 (List.map (DV.int .i64) x.bR)]
def KH(x:cJ):DV:=.agg (CM x)
structure aD where
 SL:Int
 qo:cJ
def zY(x:aD):List DV:=[.int .i64 x.SL,.int .u8 x.qo.pB,.int .i64 x.qo.bo,.int .i64 x.qo.pd,.int .i64 x.qo.gN,.int .i64 x.qo.kV,.int .i64 x.qo.bM,.sl 1 (List.map (DV.int .i64) x.qo.bR)]
def dm(x:aD):DV:=.agg (zY x)
structure aC where
 cU:Int
 gA:Int
 gB:Int
 gN:Int
def Br(x:aC):List DV:=[.int .u8 x.cU,.int .i64 x.gA,.int .i64 x.gB,.int .i64 x.gN]
def fw(x:aC):DV:=.agg (Br x)
structure cD where
 dM:Int
 Ri:Int
 rS:List aC
def CN(x:cD):List DV:=[.int .i64 x.dM,.int .i64 x.Ri,.sl 4 (List.map fw x.rS)]
def sR(x:cD):DV:=.agg (CN x)
structure cr where
 aeW:Int
 LH:Int
def Wx(x:cr):List DV:=[.int .i64 x.aeW,.int .i64 x.LH]
def uI(x:cr):DV:=.agg (Wx x)
structure aO where
 aW:List cr
def Bo(x:aO):List DV:=[.sl 2 (List.map uI x.aW)]
def jm(x:aO):DV:=.agg (Bo x)
structure cm where
 bn:ByteArray
 uT:Bool
def Qn(x:cm):List DV:=[.str x.bn,.bool x.uT]
def nC(x:cm):DV:=.agg (Qn x)
structure cv where
 gS:ByteArray
 uS:ByteArray
 qN:Int
def Bp(x:cv):List DV:=[.str x.gS,.str x.uS,.int .i64 x.qN]
def qA(x:cv):DV:=.agg (Bp x)
structure de where
 bn:ByteArray
 tu:Int
 uT:Int
def KI(x:de):List DV:=[.str x.bn,.int .u8 x.tu,.int .i64 x.uT]
def xz(x:de):DV:=.agg (KI x)
structure br where
 bn:ByteArray
 dM:List ByteArray
 xc:List DV
def zX(x:br):List DV:=[.str x.bn,.sl 1 (List.map DV.str x.dM),.sl 6 (List.map mh x.xc)]
def Bn(x:br):DV:=.agg (zX x)
structure bQ where
 bP:List br
def KE(x:bQ):List DV:=[.sl 3 (List.map Bn x.bP)]
def vZ(x:bQ):DV:=.agg (KE x)
structure aM where
 bn:ByteArray
 ez:List de
 aX:List bQ
def zk(x:aM):List DV:=[.str x.bn,.sl 3 (List.map xz x.ez),.sl 1 (List.map vZ x.aX)]
def oK(x:aM):DV:=.agg (zk x)
structure bj where
 bn:ByteArray
 aR:List cm
 fP:List cv
 aF:List aM
def tX(x:bj):List DV:=[.str x.bn,.sl 2 (List.map nC x.aR),.sl 3 (List.map qA x.fP),.sl 3 (List.map oK x.aF)]
structure aB where
 cU:Int
 bn:ByteArray
 gN:Int
 bR:List DV
def kH(x:aB):List DV:=[.int .u8 x.cU,.str x.bn,.int .i64 x.gN,.sl 4 (List.map mh x.bR)]
def wg(x:aB):DV:=.agg (kH x)
def aB.dec:DV→Option aB
 |.agg [.int .u8 a0,.str a1,.int .i64 a2,.sl 4 a3]=>some ⟨a0,a1,a2,a3⟩
 |_=>none
theorem aB.Dg{d:DV}{x:aB}(h:aB.dec d=some x):d=wg x:=by
 unfold aB.dec at h
 split at h
 ·injection h with h;subst h;simp[wg,kH,xO]
 ·cases h
instance:DC aB.dec wg:=⟨aB.Dg⟩
theorem Bm(x:aB):aB.dec (wg x)=some x:=by simp[aB.dec,wg,kH,xO]
structure bf where
 bw:Int
 bn:ByteArray
 bM:ByteArray
 jV:List DV
 vW:List DV
 uU:List DV
def sP(x:bf):List DV:=[.int .u8 x.bw,.str x.bn,.str x.bM,.sl 4 (List.map mh x.jV),.sl 6 (List.map mh x.vW),.sl 6 (List.map mh x.uU)]
def zm(x:bf):DV:=.agg (sP x)
def bf.dec:DV→Option bf
 |.agg [.int .u8 a0,.str a1,.str a2,.sl 4 a3,.sl 6 a4,.sl 6 a5]=>some ⟨a0,a1,a2,a3,a4,a5⟩
 |_=>none
theorem bf.Dg{d:DV}{x:bf}(h:bf.dec d=some x):d=zm x:=by
 unfold bf.dec at h
 split at h
 ·injection h with h;subst h;simp[zm,sP,xO]
 ·cases h
instance:DC bf.dec zm:=⟨bf.Dg⟩
theorem zl(x:bf):bf.dec (zm x)=some x:=by simp[bf.dec,zm,sP,xO]
structure aH where
 bw:Int
 gA:Int
 gB:Int
 gN:Int
def cM(x:aH):List DV:=[.int .u8 x.bw,.int .i64 x.gA,.int .i64 x.gB,.int .i64 x.gN]
def nD(x:aH):DV:=.agg (cM x)
structure aq where
 cG:aH
 AN:Int
 gD:Int
 bR:List Int
def yf(x:aq):List DV:=[.int .u8 x.cG.bw,.int .i64 x.cG.gA,.int .i64 x.cG.gB,.int .i64 x.cG.gN,.int .i64 x.AN,.int .i64 x.gD,.sl 1 (List.map (DV.int .i64) x.bR)]
def cW(x:aq):DV:=.agg (yf x)
structure ei where
 gS:Int
 uS:Int
 gN:Int
def Bq(x:ei):List DV:=[.int .i64 x.gS,.int .i64 x.uS,.int .i64 x.gN]
structure bZ where
 AN:Int
 bM:Int
 bR:List Int
def KG(x:bZ):List DV:=[.int .i64 x.AN,.int .i64 x.bM,.sl 1 (List.map (DV.int .i64) x.bR)]
def xy(x:bZ):DV:=.agg (KG x)
structure aU where
 cu:ei
 gY:List bZ
def KK(x:aU):List DV:=[.int .i64 x.cu.gS,.int .i64 x.cu.uS,.int .i64 x.cu.gN,.sl 3 (List.map xy x.gY)]
def da(x:aU):DV:=.agg (KK x)
noncomputable def iX(x0:List ByteArray):Option (List ByteArray):=Ih (dL 16 (List.length ([]:List ByteArray)+List.length x0)) (some (([]:List ByteArray)++x0))
theorem xB{x0:List ByteArray}{r:List ByteArray}(hM:iX x0=some r):iM prog 274 ⟨[.sl 1 (List.map DV.str x0)],[],.row 50000,[(50000,some (.row 9 1 (List.map DV.str r)))],[50000]⟩:=by
 unfold iX at hM;obtain⟨h,hM⟩:=tj hM;obtain rfl:=Option.some.inj hM;refine iM.body func274 ntmps274 rfl rfl rfl rfl ?_;refine iL ?_;refine gw (.cons (ig rfl)<|.nil _) (by kernel_rfl) (by kernel_rfl) ?_;refine iL ?_;refine iL ?_;refine Ee rfl (by decide) (by decide) (fun b hb=>?_);refine uc _ rfl (fun c=>?_) (fun c=>?_)
 ·have h0:x0 = []:=List.map_eq_nil_iff.1 (hb c)
  subst h0;refine iL ?_;refine gw (.cons (ig rfl)<|.nil _) (by kernel_rfl) (by kernel_rfl) ?_;refine tW (yg (t:=2) (id:=50000) 9 1 rfl rfl) ?_;exact uZ (qT (.r1 (.tmp rfl)) (pP.refl _) (mj.spec (.cons rfl .nil)))
 ·refine AA ?_
  refine iL ?_;refine gw (.cons (yT DV.str ([]:List ByteArray) rfl rfl rfl rfl rfl rfl rfl)<|.cons (Ao rfl)<|.cons (ug x0 h rfl rfl rfl Src.sl)<|.cons (ig rfl)<|.nil _) (by kernel_rfl) (by kernel_rfl) ?_;refine tW (σ':=⟨[(2,.row 50000)],[(50000,some (.row 9 1 (List.map DV.str (([]:List ByteArray)++x0))))],[50000]⟩) (oE.of (fun i=>bif Nat.beq i 50000 then 7 else i) (.cons rfl (pP.refl _) .nil) (.cons rfl (.refl _) .nil) rfl rfl rfl) ?_;exact uZ (qT (.r1 (.tmp rfl)) (pP.refl _) (mj.spec (.cons rfl .nil)))
instance {x0}:MA (iX x0) prog 274 (fun _=>1) (fun r=>⟨[.sl 1 (List.map DV.str x0)],[],.row 50000,[(50000,some (.row 9 1 (List.map DV.str r)))],[50000]⟩):=⟨xB⟩
noncomputable def fK(x0:List aC):Option (List aC):=Ih (dL 32 (List.length ([]:List aC)+List.length x0)) (some (([]:List aC)++x0))
theorem tZ{x0:List aC}{r:List aC}(hM:fK x0=some r):iM prog 216 ⟨[.sl 4 (List.map fw x0)],[],.row 50000,[(50000,some (.row 357 4 (List.map fw r)))],[50000]⟩:=by
 unfold fK at hM;obtain⟨h,hM⟩:=tj hM;obtain rfl:=Option.some.inj hM;refine iM.body func216 ntmps216 rfl rfl rfl rfl ?_;refine iL ?_;refine gw (.cons (ig rfl)<|.nil _) (by kernel_rfl) (by kernel_rfl) ?_;refine iL ?_;refine iL ?_;refine Ee rfl (by decide) (by decide) (fun b hb=>?_);refine uc _ rfl (fun c=>?_) (fun c=>?_)
 ·have h0:x0 = []:=List.map_eq_nil_iff.1 (hb c)
  subst h0;refine iL ?_;refine gw (.cons (ig rfl)<|.nil _) (by kernel_rfl) (by kernel_rfl) ?_;refine tW (yg (t:=2) (id:=50000) 357 4 rfl rfl) ?_;exact uZ (qT (.r1 (.tmp rfl)) (pP.refl _) (mj.spec (.cons rfl .nil)))
 ·refine AA ?_
  refine iL ?_;refine gw (.cons (yT fw ([]:List aC) rfl rfl rfl rfl rfl rfl rfl)<|.cons (Ao rfl)<|.cons (ug x0 h rfl rfl rfl Src.sl)<|.cons (ig rfl)<|.nil _) (by kernel_rfl) (by kernel_rfl) ?_;refine tW (σ':=⟨[(2,.row 50000)],[(50000,some (.row 357 4 (List.map fw (([]:List aC)++x0))))],[50000]⟩) (oE.of (fun i=>bif Nat.beq i 50000 then 7 else i) (.cons rfl (pP.refl _) .nil) (.cons rfl (.refl _) .nil) rfl rfl rfl) ?_;exact uZ (qT (.r1 (.tmp rfl)) (pP.refl _) (mj.spec (.cons rfl .nil)))
instance {x0}:MA (fK x0) prog 216 (fun _=>1) (fun r=>⟨[.sl 4 (List.map fw x0)],[],.row 50000,[(50000,some (.row 357 4 (List.map fw r)))],[50000]⟩):=⟨tZ⟩
def eV(x0:List cD):Option (List cD):=Ih (dL 40 (List.length ([]:List cD)+List.length x0)) (some (([]:List cD)++x0))
theorem tY{x0:List cD}{r:List cD}(hM:eV x0=some r):iM prog 183 ⟨[.row 100000],[(100000,some (.row 263 3 (List.map sR x0)))],.row 50000,[(50000,some (.row 263 3 (List.map sR r))),(100000,some (.row 263 3 (List.map sR x0)))],[50000]⟩:=by
 unfold eV at hM;obtain⟨h,hM⟩:=tj hM;obtain rfl:=Option.some.inj hM;refine iM.body func183 ntmps183 rfl rfl rfl rfl ?_;refine iL ?_;refine gw (.cons (ig rfl)<|.nil _) (by kernel_rfl) (by kernel_rfl) ?_;refine iL ?_;refine iL ?_;refine Kp rfl rfl (by decide) (by decide) (fun b hb=>?_);refine uc _ rfl (fun c=>?_) (fun c=>?_)
 ·have h0:x0 = []:=List.map_eq_nil_iff.1 (hb c)
  subst h0;refine iL ?_;refine gw (.cons (ig rfl)<|.nil _) (by kernel_rfl) (by kernel_rfl) ?_;refine tW (yg (t:=2) (id:=50000) 263 3 rfl rfl) ?_;exact uZ (qT (.r1 (.tmp rfl)) (pP.refl _) (mj.spec (.cons rfl (.cons rfl .nil))))
 ·refine AA ?_
  refine iL ?_;refine gw (.cons (yT sR ([]:List cD) rfl rfl rfl rfl rfl rfl rfl)<|.cons (Ao rfl)<|.cons (ug x0 h rfl rfl rfl (Src.row rfl))<|.cons (ig rfl)<|.nil _) (by kernel_rfl) (by kernel_rfl) ?_;refine tW (σ':=⟨[(2,.row 50000)],[(50000,some (.row 263 3 (List.map sR (([]:List cD)++x0)))),(100000,some (.row 263 3 (List.map sR x0)))],[50000,100000]⟩) (oE.of (fun i=>bif Nat.beq i 50000 then 7 else i) (.cons rfl (pP.refl _) .nil) (.cons rfl (.refl _) (.cons rfl (.refl _) .nil)) rfl rfl rfl) ?_;exact uZ (qT (.r1 (.tmp rfl)) (pP.refl _) (mj.spec (.cons rfl (.cons rfl .nil))))
instance {x0}:MA (eV x0) prog 183 (fun _=>1) (fun r=>⟨[.row 100000],[(100000,some (.row 263 3 (List.map sR x0)))],.row 50000,[(50000,some (.row 263 3 (List.map sR r))),(100000,some (.row 263 3 (List.map sR x0)))],[50000]⟩):=⟨tY⟩
def iv(x0:List Bool):Option (List Bool):=Ih (dL 1 (List.length ([]:List Bool)+List.length x0)) (some (([]:List Bool)++x0))
theorem yi{x0:List Bool}{r:List Bool}(hM:iv x0=some r):iM prog 184 ⟨[.row 100000],[(100000,some (.row 4 1 (List.map DV.bool x0)))],.row 50000,[(50000,some (.row 4 1 (List.map DV.bool r))),(100000,some (.row 4 1 (List.map DV.bool x0)))],[50000]⟩:=by
 unfold iv at hM;obtain⟨h,hM⟩:=tj hM;obtain rfl:=Option.some.inj hM;refine iM.body func184 ntmps184 rfl rfl rfl rfl ?_;refine iL ?_;refine gw (.cons (ig rfl)<|.nil _) (by kernel_rfl) (by kernel_rfl) ?_;refine iL ?_;refine iL ?_;refine Kp rfl rfl (by decide) (by decide) (fun b hb=>?_);refine uc _ rfl (fun c=>?_) (fun c=>?_)
 ·have h0:x0 = []:=List.map_eq_nil_iff.1 (hb c)
  subst h0;refine iL ?_;refine gw (.cons (ig rfl)<|.nil _) (by kernel_rfl) (by kernel_rfl) ?_;refine tW (yg (t:=2) (id:=50000) 4 1 rfl rfl) ?_;exact uZ (qT (.r1 (.tmp rfl)) (pP.refl _) (mj.spec (.cons rfl (.cons rfl .nil))))
 ·refine AA ?_
  refine iL ?_;refine gw (.cons (yT DV.bool ([]:List Bool) rfl rfl rfl rfl rfl rfl rfl)<|.cons (Ao rfl)<|.cons (ug x0 h rfl rfl rfl (Src.row rfl))<|.cons (ig rfl)<|.nil _) (by kernel_rfl) (by kernel_rfl) ?_;refine tW (σ':=⟨[(2,.row 50000)],[(50000,some (.row 4 1 (List.map DV.bool (([]:List Bool)++x0)))),(100000,some (.row 4 1 (List.map DV.bool x0)))],[50000,100000]⟩) (oE.of (fun i=>bif Nat.beq i 50000 then 7 else i) (.cons rfl (pP.refl _) .nil) (.cons rfl (.refl _) (.cons rfl (.refl _) .nil)) rfl rfl rfl) ?_;exact uZ (qT (.r1 (.tmp rfl)) (pP.refl _) (mj.spec (.cons rfl (.cons rfl .nil))))
instance {x0}:MA (iv x0) prog 184 (fun _=>1) (fun r=>⟨[.row 100000],[(100000,some (.row 4 1 (List.map DV.bool x0)))],.row 50000,[(50000,some (.row 4 1 (List.map DV.bool r))),(100000,some (.row 4 1 (List.map DV.bool x0)))],[50000]⟩):=⟨yi⟩
noncomputable def iu(x0:List Int):Option (List Int):=Ih (dL 8 (List.length ([]:List Int)+List.length x0)) (some (([]:List Int)++x0))
theorem yh{x0:List Int}{r:List Int}(hM:iu x0=some r):iM prog 163 ⟨[.sl 1 (List.map (DV.int .i64) x0)],[],.row 50000,[(50000,some (.row 2 1 (List.map (DV.int .i64) r)))],[50000]⟩:=by
 unfold iu at hM;obtain⟨h,hM⟩:=tj hM;obtain rfl:=Option.some.inj hM;refine iM.body func163 ntmps163 rfl rfl rfl rfl ?_;refine iL ?_;refine gw (.cons (ig rfl)<|.nil _) (by kernel_rfl) (by kernel_rfl) ?_;refine iL ?_;refine iL ?_;refine Ee rfl (by decide) (by decide) (fun b hb=>?_);refine uc _ rfl (fun c=>?_) (fun c=>?_)
 ·have h0:x0 = []:=List.map_eq_nil_iff.1 (hb c)
  subst h0;refine iL ?_;refine gw (.cons (ig rfl)<|.nil _) (by kernel_rfl) (by kernel_rfl) ?_;refine tW (yg (t:=2) (id:=50000) 2 1 rfl rfl) ?_;exact uZ (qT (.r1 (.tmp rfl)) (pP.refl _) (mj.spec (.cons rfl .nil)))
 ·refine AA ?_
  refine iL ?_;refine gw (.cons (yT (DV.int .i64) ([]:List Int) rfl rfl rfl rfl rfl rfl rfl)<|.cons (Ao rfl)<|.cons (ug x0 h rfl rfl rfl Src.sl)<|.cons (ig rfl)<|.nil _) (by kernel_rfl) (by kernel_rfl) ?_;refine tW (σ':=⟨[(2,.row 50000)],[(50000,some (.row 2 1 (List.map (DV.int .i64) (([]:List Int)++x0))))],[50000]⟩) (oE.of (fun i=>bif Nat.beq i 50000 then 7 else i) (.cons rfl (pP.refl _) .nil) (.cons rfl (.refl _) .nil) rfl rfl rfl) ?_;exact uZ (qT (.r1 (.tmp rfl)) (pP.refl _) (mj.spec (.cons rfl .nil)))
instance {x0}:MA (iu x0) prog 163 (fun _=>1) (fun r=>⟨[.sl 1 (List.map (DV.int .i64) x0)],[],.row 50000,[(50000,some (.row 2 1 (List.map (DV.int .i64) r)))],[50000]⟩):=⟨yh⟩
noncomputable def kj(x0:List Int):Option (List Int):=Ih (dL 8 (List.length ([]:List Int)+List.length x0)) (some (([]:List Int)++x0))
theorem Aj{x0:List Int}{r:List Int}(hM:kj x0=some r):iM prog 161 ⟨[.sl 1 (List.map (DV.int .i64) x0)],[],.row 50000,[(50000,some (.row 3 1 (List.map (DV.int .i64) r)))],[50000]⟩:=by
 unfold kj at hM;obtain⟨h,hM⟩:=tj hM;obtain rfl:=Option.some.inj hM;refine iM.body func161 ntmps161 rfl rfl rfl rfl ?_;refine iL ?_;refine gw (.cons (ig rfl)<|.nil _) (by kernel_rfl) (by kernel_rfl) ?_;refine iL ?_;refine iL ?_;refine Ee rfl (by decide) (by decide) (fun b hb=>?_);refine uc _ rfl (fun c=>?_) (fun c=>?_)
 ·have h0:x0 = []:=List.map_eq_nil_iff.1 (hb c)
  subst h0;refine iL ?_;refine gw (.cons (ig rfl)<|.nil _) (by kernel_rfl) (by kernel_rfl) ?_;refine tW (yg (t:=2) (id:=50000) 3 1 rfl rfl) ?_;exact uZ (qT (.r1 (.tmp rfl)) (pP.refl _) (mj.spec (.cons rfl .nil)))
 ·refine AA ?_
  refine iL ?_;refine gw (.cons (yT (DV.int .i64) ([]:List Int) rfl rfl rfl rfl rfl rfl rfl)<|.cons (Ao rfl)<|.cons (ug x0 h rfl rfl rfl Src.sl)<|.cons (ig rfl)<|.nil _) (by kernel_rfl) (by kernel_rfl) ?_;refine tW (σ':=⟨[(2,.row 50000)],[(50000,some (.row 3 1 (List.map (DV.int .i64) (([]:List Int)++x0))))],[50000]⟩) (oE.of (fun i=>bif Nat.beq i 50000 then 7 else i) (.cons rfl (pP.refl _) .nil) (.cons rfl (.refl _) .nil) rfl rfl rfl) ?_;exact uZ (qT (.r1 (.tmp rfl)) (pP.refl _) (mj.spec (.cons rfl .nil)))
instance {x0}:MA (kj x0) prog 161 (fun _=>1) (fun r=>⟨[.sl 1 (List.map (DV.int .i64) x0)],[],.row 50000,[(50000,some (.row 3 1 (List.map (DV.int .i64) r)))],[50000]⟩):=⟨Aj⟩
noncomputable def eL(x0:List aO):Option (List aO):=Ih (dL 24 (List.length ([]:List aO)+List.length x0)) (some (([]:List aO)++x0))
theorem te{x0:List aO}{r:List aO}(hM:eL x0=some r):iM prog 164 ⟨[.sl 1 (List.map jm x0)],[],.row 50000,[(50000,some (.row 150 1 (List.map jm r)))],[50000]⟩:=by
 unfold eL at hM;obtain⟨h,hM⟩:=tj hM;obtain rfl:=Option.some.inj hM;refine iM.body func164 ntmps164 rfl rfl rfl rfl ?_;refine iL ?_;refine gw (.cons (ig rfl)<|.nil _) (by kernel_rfl) (by kernel_rfl) ?_;refine iL ?_;refine iL ?_;refine Ee rfl (by decide) (by decide) (fun b hb=>?_);refine uc _ rfl (fun c=>?_) (fun c=>?_)
 ·have h0:x0 = []:=List.map_eq_nil_iff.1 (hb c)
  subst h0;refine iL ?_;refine gw (.cons (ig rfl)<|.nil _) (by kernel_rfl) (by kernel_rfl) ?_;refine tW (yg (t:=2) (id:=50000) 150 1 rfl rfl) ?_;exact uZ (qT (.r1 (.tmp rfl)) (pP.refl _) (mj.spec (.cons rfl .nil)))
 ·refine AA ?_
  refine iL ?_;refine gw (.cons (yT jm ([]:List aO) rfl rfl rfl rfl rfl rfl rfl)<|.cons (Ao rfl)<|.cons (ug x0 h rfl rfl rfl Src.sl)<|.cons (ig rfl)<|.nil _) (by kernel_rfl) (by kernel_rfl) ?_;refine tW (σ':=⟨[(2,.row 50000)],[(50000,some (.row 150 1 (List.map jm (([]:List aO)++x0))))],[50000]⟩) (oE.of (fun i=>bif Nat.beq i 50000 then 7 else i) (.cons rfl (pP.refl _) .nil) (.cons rfl (.refl _) .nil) rfl rfl rfl) ?_;exact uZ (qT (.r1 (.tmp rfl)) (pP.refl _) (mj.spec (.cons rfl .nil)))
instance {x0}:MA (eL x0) prog 164 (fun _=>1) (fun r=>⟨[.sl 1 (List.map jm x0)],[],.row 50000,[(50000,some (.row 150 1 (List.map jm r)))],[50000]⟩):=⟨te⟩
def iY(l n:Nat)(x0:List Int):Option (List Int):=Ih (l+n≤List.length x0∧dL 8 (List.length ([]:List Int)+List.length ((x0.drop l).take n))) (some (([]:List Int)++(x0.drop l).take n))
instance FN{l n x0}:MA (iY l n x0) prog 163 (fun _=>1) fun r=>⟨[.rv 100000 l n 1],[(100000,some (.R 2 1 (DV.int .i64) x0))],.row 50000,[(50000,some (.R 2 1 (DV.int .i64) r)),(100000,some (.R 2 1 (DV.int .i64) x0))],[50000]⟩:=⟨fun {r} hM=>by
 unfold iY at hM;obtain⟨⟨hl,h⟩,hM⟩:=tj hM;obtain rfl:=Option.some.inj hM;refine iM.body func163 ntmps163 rfl rfl rfl rfl ?_;refine iL ?_;refine gw (.cons (ig rfl)<|.nil _) (by kernel_rfl) (by kernel_rfl) ?_;refine iL ?_;refine iL ?_;refine Vu rfl rfl (by decide) (by decide) (fun b hb=>?_);refine uc _ rfl (fun c=>?_) (fun c=>?_)
 ·have h0:n=0:=hb c
  subst h0;refine iL ?_;refine gw (.cons (ig rfl)<|.nil _) (by kernel_rfl) (by kernel_rfl) ?_;refine tW (yg (t:=2) (id:=50000) 2 1 rfl rfl) ?_;exact uZ (qT (.r1 (.tmp rfl)) (pP.refl _) (mj.spec (.cons rfl (.cons rfl .nil))))
 ·refine AA ?_
  refine iL ?_;refine gw (.cons (yT (DV.int .i64) ([]:List Int) rfl rfl rfl rfl rfl rfl rfl)<|.cons (Ao rfl)<|.cons (ug ((x0.drop l).take n) h rfl rfl rfl (by rw[List.map_take,List.map_drop];exact Src.rv rfl (by rw[List.length_map];exact hl)))<|.cons (ig rfl)<|.nil _) (by kernel_rfl) (by kernel_rfl) ?_;refine tW (σ':=⟨[(2,.row 50000)],[(50000,some (.row 2 1 (List.map (DV.int .i64) (([]:List Int)++(x0.drop l).take n)))),(100000,some (.row 2 1 (List.map (DV.int .i64) x0)))],[50000,100000]⟩) (oE.of (fun i=>bif Nat.beq i 50000 then 7 else i) (.cons rfl (pP.refl _) .nil) (.cons rfl (.refl _) (.cons rfl (.refl _) .nil)) rfl rfl rfl) ?_;exact uZ (qT (.r1 (.tmp rfl)) (pP.refl _) (mj.spec (.cons rfl (.cons rfl .nil))))⟩
noncomputable def lN(sf_rootcauselaw05_Expr:av→Option aB)(x0:av):Option aB :=
 fL ([]:List DV) 17 [] [2,3,15,16] [2] i2 (fun s t=>(3,some (.bC 337 [.int .u8 (IntKind.wrap .u8 x0.cU),.str x0.bn,.I x0.gN,.row 10001]))::(10001,some (.R 337 4 mh s))::t) [.c 3 10002 3 337 4] [(10001,10002)] m64 (x0.bR.length:Int) (fun k1 s3=>
  Bi (idx x0.bR (k1:Int)) fun v5=>
  Bi (av.dec v5) fun v6=>
  Bi (sf_rootcauselaw05_Expr v6) fun v9=>
  eT 25 (bA 4 mh) [(wg v9)] fun v10=>
  Ck (dL 56 (s3.length+List.length v10))<|
  nX [] [(10001,26)] (some (s3++v10))) fun s3=>
 wk [.z 10001]<|some (aB.mk (IntKind.wrap .u8 x0.cU) x0.bn x0.gN s3)
theorem AY{sf_rootcauselaw05_Expr:av→Option aB}[ih_rootcauselaw05_Expr:∀{x0},MC (sf_rootcauselaw05_Expr x0) fun r=>bx prog 137 [.agg (xx x0)] (.agg (kH r))]{x0}:MC (lN sf_rootcauselaw05_Expr x0) fun r=>bx prog 137 [.agg (xx x0)] (.agg (kH r)):=⟨fun hM=>by unfold lN at hM;exact pb func137 ntmps137⟩
noncomputable def ll:Nat→av→Option aB
 |0,_=>none
 |fu+1,x0=>lN (ll fu) x0
instance MV(fu:Nat){x0}:MC (ll fu x0) fun r=>bx prog 137 [.agg (xx x0)] (.agg (kH r)):=by
 induction fu generalizing x0 with
 |zero=>exact⟨fun h=>by cases h⟩
 |succ fu ih=>exact AY (sf_rootcauselaw05_Expr:=ll fu)
noncomputable def lO(sf_rootcauselaw05_Body:(List DV)→Option (List DV))(x0:List DV):Option (List DV) :=
 fL ([]:List DV) 11 [] [9,10] [] (fun _ t=>(3,.row 10001)::t) (fun s t=>(10001,some (.R 332 6 mh s))::t) [.r 3 10005 332 6] [(10001,10005)] m64 (x0.length:Int) (fun k1 s3=>
  Bi (idx x0 (k1:Int)) fun v5=>
  Bi (aY.dec v5) fun v6=>
  Bi (sf_rootcauselaw05_Body v6.vW) fun v9=>
  Bi (sf_rootcauselaw05_Body v6.uU) fun v11=>
  fL ([]:List DV) 32 [] [6,9,10,11,30,31] [] (fun _ t=>(3,.row 10002)::t) (fun s t=>(6,some (.bC 332 [.int .u8 (IntKind.wrap .u8 v6.bw),.str v6.bn,.str v6.bM,.row 10003,.L 6 mh v9,.L 6 mh v11]))::(10002,some (.R 332 6 mh s3))::(10003,some (.R 337 4 mh s))::t) [.c 6 10004 3 337 4] [(10002,10001),(10003,10004)] m64 (v6.jV.length:Int) (fun AH sw=>
   Bi (idx v6.jV (AH:Int)) fun ob=>
   Bi (av.dec ob) fun xw=>
   Bi ((ll 64) xw) fun vX=>
   eT 40 (bA 4 mh) [(wg vX)] fun uG=>
   Ck (dL 56 (sw.length+List.length uG))<|
   nX [] [(10003,41)] (some (sw++uG))) fun sw=>
  wk [.z 10003]<|
  eT 46 (bA 6 mh) [(zm (bf.mk (IntKind.wrap .u8 v6.bw) v6.bn v6.bM sw v9 v11))] fun qs=>
  Ck (dL 112 (s3.length+List.length qs))<|
  nX [] [(10001,47)] (some (s3++qs))) fun s3=>
 wk [.z 10001]<|some s3
theorem AZ{sf_rootcauselaw05_Body:(List DV)→Option (List DV)}[ih_rootcauselaw05_Body:∀{x0},MC (sf_rootcauselaw05_Body x0) fun r=>bx prog 81 [.L 6 mh x0] (.L 6 mh r)]{x0}:MC (lO sf_rootcauselaw05_Body x0) fun r=>bx prog 81 [.L 6 mh x0] (.L 6 mh r):=⟨fun hM=>by unfold lO at hM;exact pb func81 ntmps81⟩
noncomputable def jC:Nat→(List DV)→Option (List DV)
 |0,_=>none
 |fu+1,x0=>lO (jC fu) x0
instance MW(fu:Nat){x0}:MC (jC fu x0) fun r=>bx prog 81 [.L 6 mh x0] (.L 6 mh r):=by
 induction fu generalizing x0 with
 |zero=>exact⟨fun h=>by cases h⟩
 |succ fu ih=>exact AZ (sf_rootcauselaw05_Body:=jC fu)
noncomputable def lM(x0:dK):Option bj :=
 fL ([]:List cm) 24 [] [1,2,3,22,23] [1,2] i2 (fun s t=>(3,some (.bC 115 [.str x0.bn,.row 10001,.bq,.bq]))::(10001,some (.R 206 2 nC s))::t) [.c 3 10027 1 206 2] [(10001,10027)] m64 (x0.aR.length:Int) (fun k1 s3=>
  Bi (idx x0.aR (k1:Int)) fun TG=>
  eT 35 (bA 2 nC) [(cm.mk TG.bn TG.uT)] fun TM=>
  Ck (dL 24 (s3.length+List.length TM))<|
  nX [] [(10001,36)] (some (s3++TM))) fun s3=>
 fL ([]:List cv) 42 [] [1,2,3,40,41] [1,2] i2 (fun s t=>(3,some (.bC 115 [.str x0.bn,.row 10002,.row 10003,.bq]))::(10002,some (.R 206 2 nC s3))::(10003,some (.R 207 3 qA s))::t) [.c 3 10026 2 207 3] [(10002,10001),(10003,10026)] m64 (x0.fP.length:Int) (fun k4 s6=>
  Bi (idx x0.fP (k4:Int)) fun Fl=>
  eT 55 (bA 3 qA) [(cv.mk Fl.gS Fl.uS Fl.qN)] fun v40=>
  Ck (dL 40 (s6.length+List.length v40))<|
  nX [] [(10003,56)] (some (s6++v40))) fun s6=>
 fL ([]:List aM) 62 [] [2,3,60,61] [2] i2 (fun s t=>(3,some (.bC 115 [.str x0.bn,.row 10004,.row 10005,.row 10006]))::(10004,some (.R 206 2 nC s3))::(10005,some (.R 207 3 qA s6))::(10006,some (.R 211 3 oK s))::t) [.c 3 10025 3 211 3] [(10004,10002),(10005,10003),(10006,10025)] m64 (x0.aF.length:Int) (fun k7 s9=>
  Bi (idx x0.aF (k7:Int)) fun v11=>
  fL ([]:List de) 72 [] [2,3,9,10,60,61,62,70,71] [2,9] i2 (fun s t=>(3,some (.bC 115 [.str x0.bn,.row 10007,.row 10008,.row 10009]))::(10,some (.bC 211 [.str v11.bn,.row 10010,.bq]))::(10007,some (.R 206 2 nC s3))::(10008,some (.R 207 3 qA s6))::(10009,some (.R 211 3 oK s9))::(10010,some (.R 214 3 xz s))::t) [.c 10 10024 1 214 3] [(10007,10004),(10008,10005),(10009,10006),(10010,10024)] m64 (v11.ez.length:Int) (fun AH sw=>
   Bi (idx v11.ez (AH:Int)) fun zh=>
   eT 86 (bA 3 xz) [(de.mk zh.bn (IntKind.wrap .u8 zh.tu) zh.uT)] fun Mv=>
   Ck (dL 32 (sw.length+List.length Mv))<|
   nX [] [(10010,87)] (some (sw++Mv))) fun sw=>
  fL ([]:List bQ) 93 [] [2,3,10,60,61,62,91,92] [2] i2 (fun s t=>(3,some (.bC 115 [.str x0.bn,.row 10011,.row 10012,.row 10013]))::(10,some (.bC 211 [.str v11.bn,.row 10014,.row 10015]))::(10011,some (.R 206 2 nC s3))::(10012,some (.R 207 3 qA s6))::(10013,some (.R 211 3 oK s9))::(10014,some (.R 214 3 xz sw))::(10015,some (.R 217 1 vZ s))::t) [.c 10 10023 2 217 1] [(10011,10007),(10012,10008),(10013,10009),(10014,10010),(10015,10023)] m64 (v11.aX.length:Int) (fun k15 Cx=>
   Bi (idx v11.aX (k15:Int)) fun v21=>
   fL ([]:List br) 99 [] [2,3,10,15,60,61,62,91,92,93,97,98] [2] i2 (fun s t=>(3,some (.bC 115 [.str x0.bn,.row 10016,.row 10017,.row 10018]))::(10,some (.bC 211 [.str v11.bn,.row 10019,.row 10020]))::(15,some (.bC 217 [.row 10021]))::(10016,some (.R 206 2 nC s3))::(10017,some (.R 207 3 qA s6))::(10018,some (.R 211 3 oK s9))::(10019,some (.R 214 3 xz sw))::(10020,some (.R 217 1 vZ Cx))::(10021,some (.R 224 3 Bn s))::t) [.c 15 10022 0 224 3] [(10016,10011),(10017,10012),(10018,10013),(10019,10014),(10020,10015),(10021,10022)] m64 (v21.length:Int) (fun k22 xX=>
    Bi (idx v21 (k22:Int)) fun v28=>
    Ck (dL 16 (v28.dM.length))<|
    Bi ((jC 64) v28.xc) fun v31=>
    eT 114 (bA 3 Bn) [(br.mk v28.bn v28.dM v31)] fun Bh=>
    Ck (dL 64 (xX.length+List.length Bh))<|
    nX [] [(10021,115)] (some (xX++Bh))) fun xX=>
   wk [.z 10021]<|
   eT 121 (bA 1 vZ) [(bQ.mk xX)] fun vY=>
   Ck (dL 24 (Cx.length+List.length vY))<|
   nX [] [(10011,10016),(10012,10017),(10013,10018),(10014,10019),(10015,122)] (some (Cx++vY))) fun Cx=>
  wk [.z 10014,.z 10015]<|
  eT 128 (bA 3 oK) [(aM.mk v11.bn sw Cx)] fun ob=>
  Ck (dL 64 (s9.length+List.length ob))<|
  nX [] [(10004,10011),(10005,10012),(10006,129)] (some (s9++ob))) fun s9=>
 wk [.z 10004,.z 10005,.z 10006]<|some (bj.mk x0.bn s3 s6 s9)
instance Jy{x0}:MC (lM x0) fun r=>bx prog 42 [.agg (GF x0)] (.agg (tX r)):=⟨fun hM=>by unfold lM at hM;exact pbz func42 ntmps42 (wz [109])⟩
noncomputable def ri(sf_syntax_each_syntax_Expr_a:(List DV)→Option (List DV))(x0:aB):Option aB :=
 Bi (cl 5 [] (sf_syntax_each_syntax_Expr_a x0.bR)) fun v2=>
 some ({ x0 with bR:=v2 }:aB)
instance NJ{sf_syntax_each_syntax_Expr_a:(List DV)→Option (List DV)}[ih_syntax_each_syntax_Expr_a:∀{x0},MA (sf_syntax_each_syntax_Expr_a x0) prog 258 (fun _=>0) fun r=>⟨[.L 4 mh x0,.val (.func (.func 259) #[] #[])],[],.L 4 mh r,[],[]⟩]{x0}:MC (ri sf_syntax_each_syntax_Expr_a x0) fun r=>bx prog 259 [.agg (kH x0)] (.agg (kH r)):=⟨fun hM=>by unfold ri at hM;exact pb func259 ntmps259⟩
noncomputable def iG(sf_syntax_each_syntax_Expr_a:(List DV)→Option (List DV))(x0:List DV):Option (List DV) :=
 Ck (iJ 56 (x0.length:Int) (x0.length:Int))<|
 eT 10 mh (wg (aB.mk 0 ByteArray.empty 0 [])) fun _=>
 fL (List.replicate (Int.toNat (x0.length:Int)) (wg (aB.mk 0 ByteArray.empty 0 []))) 13 [] [1,11,12] [] (fun _ t=>(5,.row 10001)::t) (fun s t=>(10001,some (.R 337 4 mh s))::t) [] [(10001,10)] m64 (x0.length:Int) (fun k2 s4=>
  Bi (idx x0 (k2:Int)) fun v6=>
  Bi (aB.dec v6) fun v7=>
  Bi ((ri sf_syntax_each_syntax_Expr_a) v7) fun v10=>
  Bi (idx s4 (k2:Int)) fun v12=>
  Bi (aB.dec v12) fun mU=>
  eT 23 mh (wg v10) fun qs=>
  nX [] [] (some (List.set s4 (Int.toNat (k2:Int)) qs))) fun s4=>
 wk [.z 10001]<|rX [] (some s4)
theorem xL{sf_syntax_each_syntax_Expr_a:(List DV)→Option (List DV)}[ih_syntax_each_syntax_Expr_a:∀{x0},MA (sf_syntax_each_syntax_Expr_a x0) prog 258 (fun _=>0) fun r=>⟨[.L 4 mh x0,.val (.func (.func 259) #[] #[])],[],.L 4 mh r,[],[]⟩]{x0}:MA (iG sf_syntax_each_syntax_Expr_a x0) prog 258 (fun _=>0) fun r=>⟨[.L 4 mh x0,.val (.func (.func 259) #[] #[])],[],.L 4 mh r,[],[]⟩:=⟨fun hM=>by unfold iG at hM;exact ab func258 ntmps258⟩
noncomputable def fU:Nat→(List DV)→Option (List DV)
 |0,_=>none
 |fu+1,x0=>iG (fU fu) x0
instance Gk(fu:Nat){x0}:MA (fU fu x0) prog 258 (fun _=>0) fun r=>⟨[.L 4 mh x0,.val (.func (.func 259) #[] #[])],[],.L 4 mh r,[],[]⟩:=by
 induction fu generalizing x0 with
 |zero=>exact⟨fun h=>by cases h⟩
 |succ fu ih=>exact xL (sf_syntax_each_syntax_Expr_a:=fU fu)
noncomputable def rb(sf_syntax_each_syntax_Stmt_a:(List DV)→Option (List DV))(x0:bf):Option bf :=
 Bi (cl 5 [] ((fU 64) x0.jV)) fun v2=>
 Bi (cl 8 [] (sf_syntax_each_syntax_Stmt_a x0.vW)) fun v4=>
 Bi (cl 11 [] (sf_syntax_each_syntax_Stmt_a x0.uU)) fun v6=>
 some ({ x0 with jV:=v2,vW:=v4,uU:=v6 }:bf)
instance NH{sf_syntax_each_syntax_Stmt_a:(List DV)→Option (List DV)}[ih_syntax_each_syntax_Stmt_a:∀{x0},MA (sf_syntax_each_syntax_Stmt_a x0) prog 191 (fun _=>0) fun r=>⟨[.L 6 mh x0,.val (.func (.func 192) #[] #[])],[],.L 6 mh r,[],[]⟩]{x0}:MC (rb sf_syntax_each_syntax_Stmt_a x0) fun r=>bx prog 192 [.agg (sP x0)] (.agg (sP r)):=⟨fun hM=>by unfold rb at hM;exact pb func192 ntmps192⟩
noncomputable def iE(sf_syntax_each_syntax_Stmt_a:(List DV)→Option (List DV))(x0:List DV):Option (List DV) :=
 Ck (iJ 112 (x0.length:Int) (x0.length:Int))<|
 eT 10 mh (zm (bf.mk 0 ByteArray.empty ByteArray.empty [] [] [])) fun _=>
 fL (List.replicate (Int.toNat (x0.length:Int)) (zm (bf.mk 0 ByteArray.empty ByteArray.empty [] [] []))) 13 [] [1,11,12] [] (fun _ t=>(5,.row 10001)::t) (fun s t=>(10001,some (.R 332 6 mh s))::t) [] [(10001,10)] m64 (x0.length:Int) (fun k2 s4=>
  Bi (idx x0 (k2:Int)) fun v6=>
  Bi (bf.dec v6) fun v7=>
  Bi ((rb sf_syntax_each_syntax_Stmt_a) v7) fun v10=>
  Bi (idx s4 (k2:Int)) fun v12=>
  Bi (bf.dec v12) fun mU=>
  eT 23 mh (zm v10) fun qs=>
  nX [] [] (some (List.set s4 (Int.toNat (k2:Int)) qs))) fun s4=>
 wk [.z 10001]<|rX [] (some s4)
theorem xK{sf_syntax_each_syntax_Stmt_a:(List DV)→Option (List DV)}[ih_syntax_each_syntax_Stmt_a:∀{x0},MA (sf_syntax_each_syntax_Stmt_a x0) prog 191 (fun _=>0) fun r=>⟨[.L 6 mh x0,.val (.func (.func 192) #[] #[])],[],.L 6 mh r,[],[]⟩]{x0}:MA (iE sf_syntax_each_syntax_Stmt_a x0) prog 191 (fun _=>0) fun r=>⟨[.L 6 mh x0,.val (.func (.func 192) #[] #[])],[],.L 6 mh r,[],[]⟩:=⟨fun hM=>by unfold iE at hM;exact ab func191 ntmps191⟩
noncomputable def fT:Nat→(List DV)→Option (List DV)
 |0,_=>none
 |fu+1,x0=>iE (fT fu) x0
instance Gj(fu:Nat){x0}:MA (fT fu x0) prog 191 (fun _=>0) fun r=>⟨[.L 6 mh x0,.val (.func (.func 192) #[] #[])],[],.L 6 mh r,[],[]⟩:=by
 induction fu generalizing x0 with
 |zero=>exact⟨fun h=>by cases h⟩
 |succ fu ih=>exact xK (sf_syntax_each_syntax_Stmt_a:=fT fu)
noncomputable def rf(x0:br):Option br :=
 eT 5 (bA 1 DV.str) ([]:List ByteArray) fun _=>
 Ck (dL 16 (List.length ([]:List ByteArray)+List.length x0.dM))<|
 Bi (cl 11 [] ((fT 64) x0.xc)) fun v3=>
 wk [.z 8]<|some (br.mk x0.bn (([]:List ByteArray)++x0.dM) v3)
instance NI{x0}:MC (rf x0) fun r=>bx prog 133 [.agg (zX x0)] (.agg (zX r)):=⟨fun hM=>by unfold rf at hM;exact pb func133 ntmps133⟩
noncomputable def jR(x0:List br):Option (List br) :=
 Ck (iJ 64 (x0.length:Int) (x0.length:Int))<|
 eT 10 Bn (br.mk ByteArray.empty [] []) fun _=>
 fL (List.replicate (Int.toNat (x0.length:Int)) (br.mk ByteArray.empty [] [])) 13 [] [1,11,12] [] (fun _ t=>(5,.row 10001)::t) (fun s t=>(10001,some (.R 224 3 Bn s))::t) [] [(10001,10)] m64 (x0.length:Int) (fun k2 s4=>
  Bi (idx x0 (k2:Int)) fun v6=>
  Bi (rf v6) fun v8=>
  Bi (idx s4 (k2:Int)) fun v10=>
  eT 23 Bn v8 fun v11=>
  nX [] [] (some (List.set s4 (Int.toNat (k2:Int)) v11))) fun s4=>
 wk [.z 10001]<|rX [] (some s4)
instance EJ{x0}:MA (jR x0) prog 132 (fun _=>0) fun r=>⟨[.L 3 Bn x0,.val (.func (.func 133) #[] #[])],[],.L 3 Bn r,[],[]⟩:=⟨fun hM=>by unfold jR at hM;exact ab func132 ntmps132⟩
noncomputable def rP(x0:bQ):Option bQ :=
 Bi (cl 5 [] (jR x0.bP)) fun v2=>
 some (bQ.mk v2)
instance Sf{x0}:MC (rP x0) fun r=>bx prog 131 [.agg (KE x0)] (.agg (KE r)):=⟨fun hM=>by unfold rP at hM;exact pb func131 ntmps131⟩
noncomputable def jQ(x0:List bQ):Option (List bQ) :=
 Ck (iJ 24 (x0.length:Int) (x0.length:Int))<|
 eT 10 vZ (bQ.mk []) fun _=>
 fL (List.replicate (Int.toNat (x0.length:Int)) (bQ.mk [])) 13 [] [1,11,12] [] (fun _ t=>(5,.row 10001)::t) (fun s t=>(10001,some (.R 217 1 vZ s))::t) [] [(10001,10)] m64 (x0.length:Int) (fun k2 s4=>
  Bi (idx x0 (k2:Int)) fun v6=>
  Bi (rP v6) fun v8=>
  Bi (idx s4 (k2:Int)) fun v10=>
  eT 23 vZ v8 fun v11=>
  nX [] [] (some (List.set s4 (Int.toNat (k2:Int)) v11))) fun s4=>
 wk [.z 10001]<|rX [] (some s4)
instance EI{x0}:MA (jQ x0) prog 130 (fun _=>0) fun r=>⟨[.L 1 vZ x0,.val (.func (.func 131) #[] #[])],[],.L 1 vZ r,[],[]⟩:=⟨fun hM=>by unfold jQ at hM;exact ab func130 ntmps130⟩
noncomputable def ui(x0:aM):Option aM :=
 eT 3 (bA 3 xz) ([]:List de) fun _=>
 Ck (dL 32 (List.length ([]:List de)+List.length x0.ez))<|
 Bi (cl 10 [] (jQ x0.aX)) fun v3=>
 wk [.z 6]<|some (aM.mk x0.bn (([]:List de)++x0.ez) v3)
instance VU{x0}:MC (ui x0) fun r=>bx prog 129 [.agg (zk x0)] (.agg (zk r)):=⟨fun hM=>by unfold ui at hM;exact pb func129 ntmps129⟩
noncomputable def jq(x0:List aM):Option (List aM) :=
 Ck (iJ 64 (x0.length:Int) (x0.length:Int))<|
 eT 10 oK (aM.mk ByteArray.empty [] []) fun _=>
 fL (List.replicate (Int.toNat (x0.length:Int)) (aM.mk ByteArray.empty [] [])) 13 [] [1,11,12] [] (fun _ t=>(5,.row 10001)::t) (fun s t=>(10001,some (.R 211 3 oK s))::t) [] [(10001,10)] m64 (x0.length:Int) (fun k2 s4=>
  Bi (idx x0 (k2:Int)) fun v6=>
  Bi (ui v6) fun v8=>
  Bi (idx s4 (k2:Int)) fun v10=>
  eT 23 oK v8 fun v11=>
  nX [] [] (some (List.set s4 (Int.toNat (k2:Int)) v11))) fun s4=>
 wk [.z 10001]<|rX [] (some s4)
instance DB{x0}:MA (jq x0) prog 128 (fun _=>0) fun r=>⟨[.L 3 oK x0,.val (.func (.func 129) #[] #[])],[],.L 3 oK r,[],[]⟩:=⟨fun hM=>by unfold jq at hM;exact ab func128 ntmps128⟩
noncomputable def uM(x0:bj):Option bj :=
 eT 3 (bA 2 nC) ([]:List cm) fun _=>
 Ck (dL 24 (List.length ([]:List cm)+List.length x0.aR))<|
 eT 7 (bA 3 qA) ([]:List cv) fun _=>
 Ck (dL 40 (List.length ([]:List cv)+List.length x0.fP))<|
 Bi (cl 15 [] (jq x0.aF)) fun v4=>
 wk [.z 6,.z 10]<|some (bj.mk x0.bn (([]:List cm)++x0.aR) (([]:List cv)++x0.fP) v4)
instance aan{x0}:MC (uM x0) fun r=>bx prog 79 [.agg (tX x0)] (.agg (tX r)):=⟨fun hM=>by unfold uM at hM;exact pb func79 ntmps79⟩
noncomputable def cL(x0:Int)(x1:Int):Option Int :=
 Ck (x1≠0)<|
 Ck (x1≠0)<|
 some (Int.tmod (IntKind.wrap .i64 ((Int.tmod x0 x1)+x1)) x1)
instance Oa{x0 x1}:MC (cL x0 x1) fun r=>bx prog 44 [.I x0,.I x1] (.I r):=⟨fun hM=>by unfold cL at hM;exact pb func44 ntmps44⟩
noncomputable def nR(x0:aH)(x1:aH):Option Bool :=
 If (x0.bw != x1.bw) (
  some (decide (x0.bw<x1.bw)))<|
 If (x0.gA != x1.gA) (
  some (decide (x0.gA<x1.gA)))<|
 If (x0.gB != x1.gB) (
  some (decide (x0.gB<x1.gB)))<|
 some (decide (x0.gN<x1.gN))
instance MS{x0 x1}:MC (nR x0 x1) fun r=>bx prog 87 [.agg (cM x0),.agg (cM x1)] (.bool r):=⟨fun hM=>by unfold nR at hM;exact pb func87 ntmps87⟩
@[reducible] noncomputable def vA(s5:(List aq)):Option (List aq) :=
 nX [] [] (some s5)
@[reducible] noncomputable def rm(tF:(List aq)):Option (List aq) :=
 nX [] [] (vA tF)
@[reducible] noncomputable def oi(qt:aq)(s23:(List aq)×Bool):Option ((List aq)×Bool) :=
 eT 42 (bA 7 cW) [qt] fun v21=>
 Ck (dL 72 (s23.1.length+List.length v21))<|
 nX [] [(10001,43)] (some ((s23.1++v21),s23.2))
@[reducible] noncomputable def oj(v7:aq)(a9:List aq)(qt:aq)(s28:Bool):Option ((List aq)×Bool) :=
 jn (oi qt) 12 [] [5,9,10,11,12,16,17,18] [5,9] (fun s t=>(6,.row 10003)::(7,.bool s.2)::t) (fun s t=>(10003,some (.R 123 7 cW s.1))::t)<|
 Bi (gb (!s28) (false) (nR v7.cG qt.cG)) fun vY=>
 If ((!s28)&&vY) (
  eT 38 (bA 7 cW) [v7] fun yN=>
  Ck (dL 72 (a9.length+List.length yN))<|
  nX [] [(10003,39)] (oi qt ((a9++yN),true)))<|
 nX [] [(10003,10002)] (oi qt (a9,s28))
noncomputable def lh(x0:List aq):Option (List aq) :=
 fL ([]:List aq) 12 [] [10,11] [] (fun s t=>(3,.L 7 cW s)::t) i2 [] [] m64 (x0.length:Int) (fun k1 s3=>
  jn vA 10004 [] [10,11,12] [] (fun s t=>(3,.L 7 cW s)::t) i2<|
  Bi (idx x0 (k1:Int)) fun v7=>
  fL (([]:List aq),false) 18 [] [5,10,11,12,16,17] [5] (fun s t=>(6,.row 10001)::(7,.bool s.2)::t) (fun s t=>(10001,some (.R 123 7 cW s.1))::t) [.r 6 10004 123 7] [(10001,10004)] m64 (s3.length:Int) (fun k8 sx=>
   Bi (idx s3 (k8:Int)) fun qt=>
   jn (oj v7 sx.1 qt) 10 [] [5,9,10,11,12,16,17,18] [5,9] (fun s t=>(6,.row 10002)::(7,.bool s)::t) (fun _ t=>(10002,some (.R 123 7 cW sx.1))::t)<|
   If ((qt.cG.bw==v7.cG.bw)&&((qt.cG.gA==v7.cG.gA)&&((qt.cG.gB==v7.cG.gB)&&((qt.cG.gN==v7.cG.gN)&&true)))) (
    nX [] [(10002,10001)] (oj v7 sx.1 qt true))<|
   nX [] [(10002,10001)] (oj v7 sx.1 qt sx.2)) fun sx=>
  jn rm 17 [] [10,11,12] [] (fun s t=>(6,.L 7 cW s)::t) i2<|
  If (!sx.2) (
   eT 49 (bA 7 cW) [v7] fun qm=>
   Ck (dL 72 (sx.1.length+List.length qm))<|
   nX [.z 50] [] (rm (sx.1++qm)))<|
  nX [.z 10001] [] (rm sx.1)) fun s3=>
 some s3
instance MR{x0}:MC (lh x0) fun r=>bx prog 45 [.L 7 cW x0] (.L 7 cW r):=⟨fun hM=>by unfold lh at hM;exact pb func45 ntmps45⟩
@[reducible] noncomputable def tV(a2:Int)(s5:(List aq)):Option (xV ((List aq)×Int) (List aq)) :=
 nX [] [(10001,10002)] (some (.next (s5,(IntKind.wrap .i64 (a2+1)))))
@[reducible] noncomputable def dR(a1:List aq)(a2:Int)(v7:aq)(v11:Int)(mU:Int)(Cn:Int×Int×Int×(List Int)):Option (xV ((List aq)×Int) (List aq)) :=
 wk [.z 10004]<|
 eT 134 (bA 7 cW) [(aq.mk (aH.mk (IntKind.wrap .u8 (1+((IntKind.wrap .u8 ((v7.cG.bw % 9)+9)) % 9))) v11 Cn.1 mU) Cn.2.1 Cn.2.2.1 Cn.2.2.2)] fun ob=>
 Ck (dL 72 (a1.length+List.length ob))<|
 nX [] [(10002,135)] (tV a2 (a1++ob))
noncomputable def jr(x0:List aq)(x1:Int):Option (List aq) :=
 wL (E:=(List aq)) (([]:List aq),0) [] [0,1] [] (fun s t=>(5,.row 10001)::(6,.I s.2)::t) (fun s t=>(10001,some (.R 123 7 cW s.1))::t) [.r 5 10013 123 7] [(10001,10013)] (fun s3=>
  If ((decide (s3.2<(x0.length:Int)))&&(decide (s3.2<x1))) (
   jn (tV s3.2) 10005 [] [0,1,6] [] (fun _ t=>(5,.row 10002)::t) (fun s t=>(10002,some (.R 123 7 cW s))::t)<|
   Bi (idx x0 s3.2) fun v7=>
   Ck ((0:Int)≤v7.cG.bw∧(0:Int)<9)<|
   Ck ((0:Int)≤(IntKind.wrap .u8 ((v7.cG.bw % 9)+9))∧(0:Int)<9)<|
   Bi (cL v7.cG.gA 3) fun v11=>
   Bi (cL v7.cG.gN 4) fun mU=>
   jn (dR s3.1 s3.2 v7 v11 mU) 8 [] [0,1,6,8,9] [] (fun _ t=>(5,.row 10003)::t) (fun s t=>(8,some (.bC 121 [.int .u8 (IntKind.wrap .u8 (1+((IntKind.wrap .u8 ((v7.cG.bw % 9)+9)) % 9))),.I v11,.I s.1,.I mU]))::(9,some (.bC 123 [.int .u8 0,.I 0,.I 0,.I 0,.I s.2.1,.I s.2.2.1,.row 10004]))::(10003,some (.R 123 7 cW s3.1))::(10004,some (.R 2 1 (DV.int .i64) s.2.2.2))::t)<|
   If ((IntKind.wrap .u8 (1+((IntKind.wrap .u8 ((v7.cG.bw % 9)+9)) % 9)))==1) (
    Bi (cL v7.cG.gB 3) fun vX=>
    Bi (cL v7.AN 13) fun v24=>
    Ck (eN (v7.bR.length) 0 (if 2<(v7.bR.length:Int)then 2 else(v7.bR.length:Int)))<|
    Ck (dL 8 (List.length (List.take (Int.toNat (if 2<(v7.bR.length:Int)then 2 else(v7.bR.length:Int))) v7.bR)))<|
    nX [] [(10003,10001),(10004,64)] (dR s3.1 s3.2 v7 v11 mU (vX,v24,0,(List.take (Int.toNat (if 2<(v7.bR.length:Int)then 2 else(v7.bR.length:Int))) v7.bR))))<|
   If ((IntKind.wrap .u8 (1+((IntKind.wrap .u8 ((v7.cG.bw % 9)+9)) % 9)))==2) (
    Bi (cL v7.AN 13) fun v28=>
    Bi (cL v7.gD 2) fun v30=>
    nX [.c 9 10005 6 2 1] [(10003,10001),(10004,10005)] (dR s3.1 s3.2 v7 v11 mU (0,v28,v30,([]:List Int))))<|
   If ((IntKind.wrap .u8 (1+((IntKind.wrap .u8 ((v7.cG.bw % 9)+9)) % 9)))==3) (
    Bi (cL v7.AN 13) fun Bh=>
    Bi (cL v7.gD 3) fun Kw=>
    nX [.c 9 10006 6 2 1] [(10003,10001),(10004,10006)] (dR s3.1 s3.2 v7 v11 mU (0,Bh,(IntKind.wrap .i64 (1+Kw)),([]:List Int))))<|
   If ((IntKind.wrap .u8 (1+((IntKind.wrap .u8 ((v7.cG.bw % 9)+9)) % 9)))==4) (
    Bi (cL v7.AN 13) fun Mv=>
    nX [.c 9 10007 6 2 1] [(10003,10001),(10004,10007)] (dR s3.1 s3.2 v7 v11 mU (0,Mv,0,([]:List Int))))<|
   If ((IntKind.wrap .u8 (1+((IntKind.wrap .u8 ((v7.cG.bw % 9)+9)) % 9)))==5) (
    Bi (cL v7.cG.gB 3) fun Nn=>
    nX [.c 9 10008 6 2 1] [(10003,10001),(10004,10008)] (dR s3.1 s3.2 v7 v11 mU (Nn,0,0,([]:List Int))))<|
   If ((IntKind.wrap .u8 (1+((IntKind.wrap .u8 ((v7.cG.bw % 9)+9)) % 9)))==6) (
    Bi (cL v7.cG.gB 3) fun v40=>
    Bi (cL v7.gD 5) fun En=>
    nX [.c 9 10009 6 2 1] [(10003,10001),(10004,10009)] (dR s3.1 s3.2 v7 v11 mU (v40,0,(IntKind.wrap .i64 (1+En)),([]:List Int))))<|
   If ((IntKind.wrap .u8 (1+((IntKind.wrap .u8 ((v7.cG.bw % 9)+9)) % 9)))==7) (
    Bi (cL v7.cG.gB 3) fun TM=>
    Bi (cL v7.gD 4) fun v46=>
    nX [.c 9 10010 6 2 1] [(10003,10001),(10004,10010)] (dR s3.1 s3.2 v7 v11 mU (TM,0,v46,([]:List Int))))<|
   If ((IntKind.wrap .u8 (1+((IntKind.wrap .u8 ((v7.cG.bw % 9)+9)) % 9)))==9) (
    Bi (cL v7.gD 5) fun Gb=>
    nX [.c 9 10011 6 2 1] [(10003,10001),(10004,10011)] (dR s3.1 s3.2 v7 v11 mU (0,0,(IntKind.wrap .i64 (1+Gb)),([]:List Int))))<|
   nX [.c 9 10012 6 2 1] [(10003,10001),(10004,10012)] (dR s3.1 s3.2 v7 v11 mU (0,0,0,([]:List Int))))<|
  some (.done s3.1)) fun e51=>
 wk [.z 10001]<|
 Bi (lh e51) fun Nq=>
 some Nq
instance Ix{x0 x1}:MC (jr x0 x1) fun r=>bx prog 17 [.L 7 cW x0,.I x1] (.L 7 cW r):=⟨fun hM=>by unfold jr at hM;exact pb func17 ntmps17⟩
@[reducible] noncomputable def qK(a2:Int)(s5:(List aU)):Option (xV ((List aU)×Int) (List aU)) :=
 nX [] [(10001,10002)] (some (.next (s5,(IntKind.wrap .i64 (a2+1)))))
noncomputable def kp(x0:List aU)(x1:Int):Option (List aU) :=
 wL (E:=(List aU)) (([]:List aU),0) [] [0,1] [] (fun s t=>(5,.row 10001)::(6,.I s.2)::t) (fun s t=>(10001,some (.R 130 4 da s.1))::t) [.r 5 10007 130 4] [(10001,10007)] (fun s3=>
  If ((decide (s3.2<(x0.length:Int)))&&(decide (s3.2<x1))) (
   jn (qK s3.2) 10005 [] [0,1,6] [] (fun _ t=>(5,.row 10002)::t) (fun s t=>(10002,some (.R 130 4 da s))::t)<|
   Bi (idx x0 s3.2) fun v7=>
   Bi (cL v7.cu.gS 3) fun v9=>
   Bi (cL v7.cu.uS 3) fun v11=>
   Bi (cL v7.cu.gN 4) fun mU=>
   fL false 50 [] [0,1,6,7,49] [7] (fun s t=>(5,.row 10003)::(8,.bool s)::(48,.row 10003)::t) (fun _ t=>(10003,some (.R 130 4 da s3.1))::t) [] [(10003,10001)] m64 (s3.1.length:Int) (fun k14 s16=>
    Bi (idx s3.1 (k14:Int)) fun v37=>
    nX [] [] (some (s16||((v37.cu.gS==v9)&&((v37.cu.uS==v11)&&((v37.cu.gN==mU)&&true)))))) fun s16=>
   If s16 (
    nX [] [(10002,10003)] (qK s3.2 s3.1))<|
   wL (E:=(List bZ)) (1,0,([]:List bZ)) [] [0,1,6,7] [] (fun s t=>(5,.row 10004)::(11,.I s.1)::(12,.I s.2.1)::t) (fun s t=>(7,some (.bC 130 [.I v9,.I v11,.I mU,.row 10005]))::(10004,some (.R 130 4 da s3.1))::(10005,some (.R 132 3 xy s.2.2))::t) [.c 7 10006 3 132 3] [(10004,10003),(10005,10006)] (fun Cn=>
    Bi (idx x0 s3.2) fun vX=>
    If ((decide (Cn.2.1<(vX.gY.length:Int)))&&(decide (Cn.2.1<2))) (
     Bi (idx vX.gY Cn.2.1) fun v24=>
     Bi (cL v24.AN 8) fun yN=>
     Bi (cL v24.bM 4) fun v28=>
     Ck (eN (v24.bR.length) 0 (if 2<(v24.bR.length:Int)then 2 else(v24.bR.length:Int)))<|
     Ck (dL 8 (List.length (List.take (Int.toNat (if 2<(v24.bR.length:Int)then 2 else(v24.bR.length:Int))) v24.bR)))<|
     eT 106 (bA 3 xy) [(bZ.mk (IntKind.wrap .i64 (Cn.1+yN)) v28 (List.take (Int.toNat (if 2<(v24.bR.length:Int)then 2 else(v24.bR.length:Int))) v24.bR))] fun v31=>
     Ck (dL 40 (Cn.2.2.length+List.length v31))<|
     nX [] [(10005,107)] (some (.next ((IntKind.wrap .i64 (Cn.1+yN)),(IntKind.wrap .i64 (Cn.2.1+1)),(Cn.2.2++v31)))))<|
    some (.done Cn.2.2)) fun e35=>
   wk [.z 10005]<|
   eT 111 (bA 4 da) [(aU.mk (ei.mk v9 v11 mU) e35)] fun HU=>
   Ck (dL 48 (s3.1.length+List.length HU))<|
   nX [] [(10002,112)] (qK s3.2 (s3.1++HU)))<|
  some (.done s3.1)) fun e38=>
 wk [.z 10001]<|some e38
instance Lp{x0 x1}:MC (kp x0 x1) fun r=>bx prog 18 [.L 4 da x0,.I x1] (.L 4 da r):=⟨fun hM=>by unfold kp at hM;exact pbz func18 ntmps18 (wz [104])⟩
end Go.Proofs.YtpeihknododmlaaGreatDoor
namespace Go.Proofs.YtpeihknododmlaaGreatDoor
open Go.Proofs.Tryz
def Ct:Nd:=fun op s n a=>wg ⟨op,s,n,a⟩
def Rc:Ns:=fun k n h e s t=>zm ⟨k,n,h,e,s,t⟩
theorem Yt{sf:E5→Option aB}{R:DV→DV→Prop}{x:E5}(hl:x.bR.length≤2)(h:∀a∈x.bR,∃e,av.dec a=some e∧Wp (sf e) fun r=>R a (wg r)) :
  Wp (lN sf x) fun r=>∃l,r=⟨IntKind.wrap .u8 x.cU,x.bn,x.gN,l⟩∧MI R x.bR x.bR.length l:=by
 unfold lN;refine cw (fun j s=>MI R x.bR j s) (by unfold m64;omega) MI.zero ?_ ?_
 ·rintro j s hj hs
  refine bJ hj (fun a a1 a2=>?_);obtain⟨e,e1,e2⟩:=h a a2;refine aA e1 (au e2 (fun r hr=>?_));exact aV (aK (xt (by have:=hs.1;omega) (by decide)) (ax (ah (hs.snoc a1 hr))))
 ·intro s hs
  rw[Int.toNat_natCast]at hs;exact cR (ah ⟨s,rfl,hs⟩)
theorem UW{C:SN}:∀{d:Nat} {t:Bool} {x:DV},WE C UJ d t x→∀{fu:Nat},d≤fu→∃e,av.dec x=some e∧Wp (ll fu e) fun r=>WE C Ct d t (wg r):=by
 intro d t x h
 induction h with
 | @node d t u op n s c l sh hl _ ih=>
  intro fu hf;obtain⟨g,rfl⟩:∃g,fu=g+1:=⟨fu-1,by omega⟩;refine⟨_,av.pq _,?_⟩;unfold ll;have hc:=sh.c2;have ho:=sh.op;refine(Yt (R:=fun _ b=>WE C Ct d u b) (by dsimp only;omega) (fun a ha=>ih a ha (by omega))).imp ?_;rintro r ⟨l',rfl,h1⟩;dsimp only at h1 ⊢;rw[wrap_u8 (by omega) (by omega)];exact .node sh (by rw[h1.1];exact hl) (fun b hb=>by obtain⟨_,_,h⟩:=h1.mem hb;exact h)
theorem WB.succ{C:SN}{me:Nd}{ms:Ns}{d n:Nat}{l:List DV}:WB C me ms (d+1) n l=WL (WF C me ms (WB C me ms d)) n l:=rfl
theorem WL.split{S:Nat→DV→Prop}{n:Nat}{l:List DV}(h:WL S n l):∃f:Nat→Nat,f 0=0∧f l.length=n∧∀(j:Nat) (x:DV),l[j]? = some x→∃a,f (j+1)=f j+a∧S a x:=by
 induction h with
 |nil=>exact⟨fun _=>0,rfl,rfl,by simp⟩
 | @cons a b l s hs _ ih=>
  obtain⟨f,f0,f1,f2⟩:=ih;refine⟨fun j=>match j with|0=>0|j+1=>a+f j,rfl,by simp only[List.length_cons];omega,fun j x hx=>?_⟩;cases j with
  |zero=>simp at hx;subst hx;exact⟨a,by dsimp only;omega,hs⟩
  |succ j=>
   obtain⟨c,c1,c2⟩:=f2 j x (by simpa using hx);exact⟨c,by dsimp only;omega,c2⟩
theorem Vo{C:SN}:∀(d:Nat) {n:Nat} {l:List DV},WB C UJ ns5 d n l→n≤12→∀{fu:Nat},d<fu→Wp (jC fu l) fun r=>WB C Ct Rc d n r:=by
 intro d
 induction d with
 |zero=>
  rintro n l ⟨rfl,rfl⟩ _ fu hf;obtain⟨g,rfl⟩:∃g,fu=g+1:=⟨fu-1,by omega⟩;unfold jC lO;refine cw (fun j s=>s = []) (by unfold m64;simp) rfl (fun j s hj=>by simp at hj;omega) ?_;rintro s rfl;exact cR (ah ⟨rfl,rfl⟩)
 |succ d ih=>
  intro n l h hn fu hf;obtain⟨g,rfl⟩:∃g,fu=g+1:=⟨fu-1,by omega⟩;have hl:=h.len;rw[WB.succ]at h;show Wp _ fun r=>WL (WF C Ct Rc (WB C Ct Rc d)) n r
  obtain⟨f,f0,f1,f2⟩:=h.split
  have fm:∀{i j:Nat},i≤j→j≤l.length→f i≤f j:=by
   intro i j Dn
   induction Dn with
   |refl=>intro _;exact Nat.le_refl _
   |step hm ih2=>
    intro hj
    rename_i m
    obtain⟨a,a1,_⟩:=f2 m _ (List.getElem?_eq_getElem (by omega));have:=ih2 (by omega);show f i≤f (m+1);omega
  unfold jC lO;refine cw (fun j s=>s.length=j∧WL (WF C Ct Rc (WB C Ct Rc d)) (f j) s) (by unfold m64;omega) ⟨rfl,by rw[f0];exact .nil⟩ ?_ ?_
  ·rintro j s hj ⟨s1,s2⟩
   have Nl:j<l.length:=by omega
   refine bJ hj (fun x x1 x2=>?_);obtain⟨m,m1,m2⟩:=f2 j x x1;have:=fm (i:=j+1) (j:=l.length) (by omega) (Nat.le_refl _);obtain⟨sh,hl,he,hs,hz,hp,hq⟩:=m2
   rename_i k DL hh t c a b p q es ss zs
   have hk:=sh.op;refine aA (aY.pq _) ?_;refine au (ih hs (by omega) (by omega)) (fun s' mm=>?_);refine au (ih hz (by omega) (by omega)) (fun z' Nk=>?_);have hc:es.length≤3:=by rw[hl];exact sh.c3
   refine cw (fun j s=>MI (fun _ b=>WE C Ct 6 t b) es j s) (by unfold m64;dsimp only;omega) MI.zero ?_ ?_
   ·rintro i y hi hy
    dsimp only at hi;refine bJ hi (fun e e1 e2=>?_);obtain⟨e5,e3,e4⟩:=UW (he e e2) (fu:=64) (by omega);refine aA e3 (au e4 (fun r hr=>?_));exact aV (aK (xt (by have:=hy.1;omega) (by decide)) (ax (ah (hy.snoc e1 hr))))
   ·intro y hy
    dsimp only at hy ⊢;rw[Int.toNat_natCast]at hy;refine cR (aV (aK (xt (by omega) (by decide)) (ax (ah ?_))));rw[wrap_u8 (by omega) (by omega)];refine⟨by rw[List.length_append,s1];rfl,?_⟩;rw[m1];refine s2.snoc (.node sh (by rw[hy.1];exact hl) (fun b hb=>by obtain⟨_,_,h⟩:=hy.mem hb;exact h) mm Nk ?_ ?_)
    ·exact fun e=>hs.emp mm (hp e)
    ·exact fun e=>hz.emp Nk (hq e)
  ·rintro s ⟨s1,s2⟩
   rw[Int.toNat_natCast,f1]at s2;exact cR (ah s2)
def Ja(I T F:Nat)(gP:List (List Int))(own:Nat)(r:List Int)(k:Nat)(x:br):Prop :=
 ∃p:Nat,p≤2∧r[k]? = some (p:Int)∧k<3∧x.bn=nm 104 k∧x.dM=(List.range p).map (nm 112)∧∃a,a≤12∧WB ⟨I,T,F,p,gP,own⟩ Ct Rc 4 a x.xc
def vj(I T:Nat):List de:=(List.range I).map (fun(k:Nat)=>(⟨nm 120 k,1,(k:Int)⟩:de))++[⟨nm 98 0,2,0⟩]++(List.range T).map (fun k=>(⟨nm 116 k,3,0⟩:de))
structure Wl(F:Nat)(gP:List (List Int))(i:Nat)(I T:Nat)(r:List Int)(x:aM):Prop where
 i1:1≤I
 i3:I≤3
 t1:T≤1
 ar:gP[i]? = some r
 name:x.bn=cn i
 vars:x.ez=vj I T
 v1:1≤x.aX.length
 v2:x.aX.length≤2
 h1:∀u∈x.aX,1≤u.bP.length∧u.bP.length≤r.length
 full:∃u∈x.aX,u.bP.length=r.length
 hs:∀u∈x.aX,∀(k:Nat) (y:br),u.bP[k]? = some y→Ja I T F gP i r k y
structure Dk(gP:List (List Int))(f:bj):Prop where
 name:f.bn=⟨#[102,108,101,101,116,49]⟩
 f2:f.aR.length≤2
 fn:∀k x,f.aR[k]? = some x→x.bn=nm 102 k
 n1:1≤f.aF.length
 n3:f.aF.length≤3
 lk:∃ks:List (Nat×Int),(ks.map (·.1)).Pairwise (· < ·)∧(∀p∈ks,p.1<f.aF.length*f.aF.length∧1≤p.2∧p.2≤3)∧f.fP=ks.map fun p=>⟨cn (p.1 / f.aF.length),cn (p.1 % f.aF.length),p.2⟩
 al:gP.length=f.aF.length
 ar:∀r∈gP,1≤r.length∧r.length≤3∧∀k∈r,0≤k∧k≤2
 cs:∀i x,f.aF[i]? = some x→∃I T r,Wl f.aR.length gP i I T r x
theorem Lr:∀(m:Nat) (l:List Nat),l.Pairwise (· < ·)→(∀x∈l,x<m)→l.length≤m:=by
 intro m
 induction m with
 |zero=>
  intro l _ h;cases l with
  |nil=>exact Nat.le_refl _
  |cons a t=>exact absurd (h a (by simp)) (by omega)
 |succ m ih=>
  intro l hp hl;rcases List.eq_nil_or_concat l with rfl|⟨t,a,rfl⟩
  ·exact Nat.zero_le _
  ·rw[List.concat_eq_append]at hp hl ⊢
   rw[List.pairwise_append]at hp;have ha:=hl a (by simp);have:=ih t hp.1 (fun x hx=>by have:=hp.2.2 x hx a (by simp);omega);simp only[List.length_append,List.length_singleton];omega
theorem Rg{α β:Type}{R:α→β→Prop}{f:α→β}{l:List α}{s:List β}(h:MI R l l.length s)(hf:∀a b,a∈l→R a b→b=f a):s=l.map f:=by
 apply List.ext_getElem?;intro k;rw[List.getElem?_map];cases e:l[k]? with
 |none=>
  have:=h.1;rw[List.getElem?_eq_none_iff]at e;rw[Option.map_none,List.getElem?_eq_none_iff];omega
 |some a=>
  obtain⟨b,b1,b2⟩:=h.at e;rw[b1,hf a b (List.mem_of_getElem? e) b2];rfl
theorem Vw{x:dK}(hx:Mm x):Wp (lM x) fun f=>∃gP,Dk gP f:=by
 obtain⟨name,f2,fn,n1,n3,⟨ks,lk1,lk2,lk3⟩,gP,al,ar,cs⟩:=hx
 have hll:x.fP.length≤9:=by
  rw[lk3,List.length_map,←List.length_map (f:=(·.1))];refine Lr 9 _ lk1 (fun y hy=>?_);obtain⟨p,hp,rfl⟩:=List.mem_map.1 hy;have:=(lk2 p hp).1;have h9:=Nat.mul_le_mul n3 n3;omega
 unfold lM;refine cw (fun j s=>MI (fun(a:cO) (b:cm)=>b.bn=a.bn) x.aR j s) (by unfold m64;omega) MI.zero ?_ ?_
 ·intro j s hj hs
  refine bJ hj (fun a a1 a2=>aV (aK (xt (by have:=hs.1;omega) (by decide)) (ax (ah (hs.snoc a1 rfl)))))
 intro fl Qf;rw[Int.toNat_natCast]at Qf;refine cw (fun j s=>MI (fun(a:cA) (b:cv)=>b=⟨a.gS,a.uS,a.qN⟩) x.fP j s) (by unfold m64;omega) MI.zero ?_ ?_
 ·intro j s hj hs
  refine bJ hj (fun a a1 a2=>aV (aK (xt (by have:=hs.1;omega) (by decide)) (ax (ah (hs.snoc a1 rfl)))))
 intro ln hln;rw[Int.toNat_natCast]at hln;have apX:=Rg hln (fun a b _ h=>h);have afY:fl.length=x.aR.length:=Qf.1;refine cw (fun j s=>LI (fun i b=>∃I T r,Wl fl.length gP i I T r b) j s) (by unfold m64;omega) LI.zero ?_ ?_
 ·rintro j s hj hs
  refine bJ hj (fun c c1 c2=>?_);obtain⟨I,T,r,v,vs,i1,i3,t1,hr,hn,hv,Mt,v1,v3,v4,v5,v6,hh⟩:=cs j c c1;have RH:c.ez.length≤5:=by rw[hv];simp;omega
  have hvv:c.aX.length≤2:=by rw[Mt];simp;omega
  have VP:=ar r (List.mem_of_getElem? hr)
  have hu:∀u∈c.aX,1≤u.length∧u.length≤r.length:=by
   intro u h;rw[Mt]at h;rcases List.mem_cons.1 h with rfl|h
   ·exact⟨v3,v4⟩
   ·exact v5 u h
  refine cw (fun j s=>MI (fun(a:cf) (b:de)=>b=⟨a.bn,IntKind.wrap .u8 a.tu,a.uT⟩) c.ez j s) (by unfold m64;omega) MI.zero ?_ ?_
  ·intro j s hj hs
   refine bJ hj (fun a a1 a2=>aV (aK (xt (by have:=hs.1;omega) (by decide)) (ax (ah (hs.snoc a1 rfl)))))
  intro vr hvr;rw[Int.toNat_natCast]at hvr
  have apY:vr=vj I T:=by
   rw[Rg hvr (fun a b _ h=>h),hv];unfold vj;simp only[List.map_append,List.map_map,List.map_cons,List.map_nil]
   rfl
  refine cw (fun q s=>MI (fun(a:List bH) (b:bQ)=>b.bP.length=a.length∧∀k y,b.bP[k]? = some y→Ja I T fl.length gP j r k y) c.aX q s) (by unfold m64;omega) MI.zero ?_ ?_
  ·intro q s hq hs
   refine bJ hq (fun u u1 u2=>?_);have hul:=hu u u2;refine cw (fun q s=>LI (Ja I T fl.length gP j r) q s) (by unfold m64;omega) LI.zero ?_ ?_
   ·intro k s hk hs
    refine bJ hk (fun h e1 e2=>?_);rw[Mt]at u2;obtain⟨p,p2,rp,k3,DL,Gd,a,a12,hb⟩:=hh u u2 k h e1;have iO:=xp.wb (C:=⟨UJ,ns5,I,T,(x.aR.length:Int),p,gP,j⟩) (fun r hr k hk=>((ar r hr).2.2 k hk).2) hb;refine aK (by unfold dL;rw[Gd];simp;omega) ?_;refine au (Vo 4 iO a12 (by omega)) (fun b Co=>?_);refine aV (aK (xt (by have:=hs.1;omega) (by decide)) (ax (ah (hs.snoc ⟨p,p2,rp,k3,DL,Gd,a,a12,?_⟩))));rw[afY];exact Co
   ·intro s' mm
    rw[Int.toNat_natCast]at mm;exact cR (aV (aK (xt (by have:=hs.1;omega) (by decide)) (ax (ah (hs.snoc u1 ⟨mm.1,mm.2⟩)))))
  ·intro w hw
   rw[Int.toNat_natCast]at hw;refine cR (aV (aK (xt (by have:=hs.1;omega) (by decide)) (ax (ah (hs.snoc ⟨I,T,r,?_⟩)))));have hw1:=hw.1;refine⟨i1,i3,t1,hr,hn,apY,by dsimp only;rw[hw1,Mt];simp,by dsimp only;omega,fun u h=>?_,?_,fun u h k y e=>?_⟩
   ·obtain⟨a,a1,a2,_⟩:=hw.mem h
    have:=hu a a1;omega
   ·have:∃a∈c.aX,a.length=r.length:=by
     rw[Mt];rcases v6 with h|⟨a,h1,h2⟩
     ·exact⟨v,by simp,h⟩
     ·exact⟨a,by simp[h1],h2⟩
    obtain⟨a,a1,a2⟩:=this;obtain⟨k,hk,rfl⟩:=List.getElem_of_mem a1;obtain⟨b,b1,b2,_⟩:=hw.at (List.getElem?_eq_getElem hk);exact⟨b,List.mem_of_getElem? b1,by omega⟩
   ·obtain⟨a,a1,a2,a3⟩:=hw.mem h
    exact a3 k y e
 ·intro cp hcp
  rw[Int.toNat_natCast]at hcp;have hc1:=hcp.1;refine cR (ah ⟨gP,name,by dsimp only;omega,fun k y hy=>?_,by dsimp only;omega,by dsimp only;omega,⟨ks,lk1,?_,?_⟩,by dsimp only;omega,ar,hcp.2⟩)
  ·obtain⟨a,a1,a2⟩:=Qf.back hy
   rw[a2];exact fn k a a1
  ·dsimp only;rw[hc1];exact lk2
  ·dsimp only
   rw[apX,lk3,hc1,List.map_map];rfl
open Go.RowKit
instance:CEx prog 318 Extern.AbiNoEscape.same:=⟨fun args w=>run_callFunc_extern (fn:=Tryz.f318) (by kernel_rfl) (by kernel_rfl) (by kernel_rfl) (by kernel_rfl) (by kernel_rfl) args w⟩
instance:CUp prog 306 510:=⟨308,by kernel_rfl,by kernel_rfl,by kernel_rfl⟩
instance:CPi prog 306 308:=⟨by kernel_rfl,by kernel_rfl⟩
instance:CDn prog 510 306 308:=⟨by kernel_rfl,by kernel_rfl,by kernel_rfl⟩
instance:CUs prog 391 5:=⟨by kernel_rfl,by kernel_rfl⟩
instance:CBs prog 22 9 5:=⟨by kernel_rfl,by kernel_rfl,by kernel_rfl⟩
instance:CEx prog 386 Extern.BytealgIndexByte.indexByte:=⟨fun args w=>run_callFunc_extern (fn:=Tryz.f386) (by kernel_rfl) (by kernel_rfl) (by kernel_rfl) (by kernel_rfl) (by kernel_rfl) args w⟩
instance:adO prog 428 9 4:=⟨by kernel_rfl,by kernel_rfl⟩
attribute [local irreducible] ik du bx iM oE dL eN iJ
def Qo(x:Nat→Int):List DV:=[.int .u8 (x 0),.int .u8 (x 1),.int .u8 (x 2),.int .u8 (x 3),.int .u8 (x 4),.int .u8 (x 5),.int .u8 (x 6),.int .u8 (x 7),.int .u8 (x 8),.int .u8 (x 9),.int .u8 (x 10),.int .u8 (x 11),.int .u8 (x 12),.int .u8 (x 13),.int .u8 (x 14),.int .u8 (x 15),.int .u8 (x 16),.int .u8 (x 17),.int .u8 (x 18),.int .u8 (x 19),.int .u8 (x 20),.int .u8 (x 21),.int .u8 (x 22),.int .u8 (x 23),.int .u8 (x 24),.int .u8 (x 25),.int .u8 (x 26),.int .u8 (x 27),.int .u8 (x 28),.int .u8 (x 29),.int .u8 (x 30),.int .u8 (x 31)]
structure gg where
 zu:List ByteArray
 BJ:List (List cD)
 Hq:List (List Bool)
def Wv(x:gg):List DV:=[.sl 1 (List.map DV.str x.zu),.sl 1 (List.map (bA 3 sR) x.BJ),.sl 1 (List.map (bA 1 DV.bool) x.Hq)]
def Ql(x:gg):DV:=.agg (Wv x)
structure jv where
 oC:List gg
def KF(x:jv):List DV:=[.sl 3 (List.map Ql x.oC)]
structure cH where
 qn:bj
 abS:ByteArray
 gid:Nat→Int
 yw:jv
def sQ(x:cH):List DV:=[.str x.qn.bn,.sl 2 (List.map nC x.qn.aR),.sl 3 (List.map qA x.qn.fP),.sl 3 (List.map oK x.qn.aF),.str x.abS,.int .u8 (x.gid 0),.int .u8 (x.gid 1),.int .u8 (x.gid 2),.int .u8 (x.gid 3),.int .u8 (x.gid 4),.int .u8 (x.gid 5),.int .u8 (x.gid 6),.int .u8 (x.gid 7),.int .u8 (x.gid 8),.int .u8 (x.gid 9),.int .u8 (x.gid 10),.int .u8 (x.gid 11),.int .u8 (x.gid 12),.int .u8 (x.gid 13),.int .u8 (x.gid 14),.int .u8 (x.gid 15),.int .u8 (x.gid 16),.int .u8 (x.gid 17),.int .u8 (x.gid 18),.int .u8 (x.gid 19),.int .u8 (x.gid 20),.int .u8 (x.gid 21),.int .u8 (x.gid 22),.int .u8 (x.gid 23),.int .u8 (x.gid 24),.int .u8 (x.gid 25),.int .u8 (x.gid 26),.int .u8 (x.gid 27),.int .u8 (x.gid 28),.int .u8 (x.gid 29),.int .u8 (x.gid 30),.int .u8 (x.gid 31),.jA (KF x.yw)]
structure aL where
 ez:List Int
 cX:List aO
 dW:aO
def KJ(x:aL):List DV:=[.sl 1 (List.map (DV.int .i64) x.ez),.sl 1 (List.map jm x.cX),.sl 2 (List.map uI x.dW.aW)]
def ff(x:aL):DV:=.agg (KJ x)
structure bS where
 aW:List aq
def zn(x:bS):List DV:=[.sl 7 (List.map cW x.aW)]
noncomputable def db(x1:ByteArray)(o0:List ByteArray):Option Int :=
 fO (E:=Int) () 8 [100000] [0,1,7] [100000] i2 i2 [] [] m64 (o0.length:Int) (fun k1 _=>
  Bi (idx o0 (k1:Int)) fun v4=>
  If (x1.toList==v4.toList) (
   rX [] (some (.done (k1:Int))))<|
  nX [] [] (some (.next ()))) fun
  |.next _=>
   rX [] (some (-1))
  |.done r=>some r
instance EK{x1 o0}:MA (db x1 o0) prog 181 (fun _=>0) fun r=>⟨[.row 100000,.str x1],[(100000,some (.R 9 1 DV.str o0))],.I r,[(100000,some (.R 9 1 DV.str o0))],[]⟩:=⟨fun hM=>by unfold db at hM;exact ab func181 ntmps181⟩
noncomputable def gr(x1:ByteArray)(o0:List ByteArray):Option Bool :=
 Bi (cl 7 [] (db x1 o0)) fun v2=>
 rX [] (some (decide (0≤v2)))
instance Dr{x1 o0}:MA (gr x1 o0) prog 180 (fun _=>0) fun r=>⟨[.row 100000,.str x1],[(100000,some (.R 9 1 DV.str o0))],.bool r,[(100000,some (.R 9 1 DV.str o0))],[]⟩:=⟨fun hM=>by unfold gr at hM;exact ab func180 ntmps180⟩
noncomputable def yG(x0:aM):Option (List ByteArray) :=
 fL ([]:List ByteArray) 11 [] [9,10] [] (fun _ t=>(3,.row 10001)::t) (fun s t=>(10001,some (.R 9 1 DV.str s))::t) [.r 3 10003 9 1] [(10001,10003)] m64 (x0.aX.length:Int) (fun k1 s3=>
  Bi (idx x0.aX (k1:Int)) fun v5=>
  fL s3 18 [] [9,10,11,16,17] [] (fun _ t=>(3,.row 10002)::t) (fun s t=>(10002,some (.R 9 1 DV.str s))::t) [] [(10002,10001)] m64 (v5.bP.length:Int) (fun k6 s8=>
   Bi (idx v5.bP (k6:Int)) fun v10=>
   Bi (cl 25 [(100000,10002)] (gr v10.bn s8)) fun v12=>
   If (!v12) (
    eT 30 (bA 1 DV.str) [v10.bn] fun mU=>
    Ck (dL 16 (s8.length+List.length mU))<|
    nX [] [(10002,31)] (some (s8++mU)))<|
   nX [] [] (some s8)) fun s8=>
  nX [] [(10001,10002)] (some s8)) fun s3=>
 wk [.z 10001]<|some s3
instance acd{x0}:MC (yG x0) fun r=>bx prog 121 [.agg (zk x0)] (.L 1 DV.str r):=⟨fun hM=>by unfold yG at hM;exact pb func121 ntmps121⟩
noncomputable def fb(x0:cH):Option Int :=
 some (x0.qn.aF.length:Int)
instance IT{x0}:MC (fb x0) fun r=>bx prog 49 [.jA (sQ x0)] (.I r):=⟨fun hM=>by unfold fb at hM;exact pb func49 ntmps49⟩
noncomputable def gC(x0:cH)(x1:Int):Option aM :=
 Bi (gb (!(decide (x1<0))) (0) (fb x0)) fun v2=>
 If ((decide (x1<0))||(decide (v2≤x1))) (
  some (aM.mk ByteArray.empty [] []))<|
 Bi (idx x0.qn.aF x1) fun v4=>
 some v4
instance JQ{x0 x1}:MC (gC x0 x1) fun r=>bx prog 96 [.jA (sQ x0),.I x1] (.agg (zk r)):=⟨fun hM=>by unfold gC at hM;exact pb func96 ntmps96⟩
noncomputable def lp(x0:cH)(x1:Int):Option aL :=
 Bi (gC x0 x1) fun v2=>
 fL (([]:List Int),([]:List aO)) 13 [] [4,5,11,12] [4] i2 (fun s t=>(5,some (.bC 152 [.row 10001,.row 10002,.bq]))::(10001,some (.R 2 1 (DV.int .i64) s.1))::(10002,some (.R 150 1 jm s.2))::t) [.c 5 10003 0 2 1,.c 5 10004 1 150 1] [(10001,10003),(10002,10004)] m64 (v2.ez.length:Int) (fun k3 s6=>
  Bi (idx v2.ez (k3:Int)) fun v8=>
  If (v8.tu==3) (
   eT 23 (bA 1 jm) [(aO.mk [])] fun v9=>
   Ck (dL 24 (s6.2.length+List.length v9))<|
   nX [] [(10002,24)] (some (s6.1,(s6.2++v9))))<|
  eT 30 (bA 1 (DV.int .i64)) [v8.uT] fun v11=>
  Ck (dL 8 (s6.1.length+List.length v11))<|
  nX [] [(10001,31)] (some ((s6.1++v11),s6.2))) fun s6=>
 wk [.z 10001,.z 10002]<|some (aL.mk s6.1 s6.2 (aO.mk []))
instance MY{x0 x1}:MC (lp x0 x1) fun r=>bx prog 50 [.jA (sQ x0),.I x1] (.agg (KJ r)):=⟨fun hM=>by unfold lp at hM;exact pb func50 ntmps50⟩
noncomputable def lU(x0:jv)(x1:Int):Option (List ByteArray) :=
 If ((decide (x1<0))||(decide ((x0.oC.length:Int)≤x1))) (
  some ([]:List ByteArray))<|
 Bi (idx x0.oC x1) fun v2=>
 Bi (cl 28 [(50000,28)] (iX v2.zu)) fun v4=>
 wk [.z 28]<|some v4
instance Kd{x0 x1}:MC (lU x0 x1) fun r=>bx prog 209 [.jA (KF x0),.I x1] (.L 1 DV.str r):=⟨fun hM=>by unfold lU at hM;exact pb func209 ntmps209⟩
noncomputable def jf(x0:cH)(x1:Int):Option (List ByteArray) :=
 Bi (lU x0.yw x1) fun v2=>
 some v2
instance LM{x0 x1}:MC (jf x0 x1) fun r=>bx prog 151 [.jA (sQ x0),.I x1] (.L 1 DV.str r):=⟨fun hM=>by unfold jf at hM;exact pb func151 ntmps151⟩
noncomputable def ph(x0:cH)(x1:Int)(x2:Int)(x3:Int):Option (Int×Bool) :=
 Bi (gC x0 x1) fun v2=>
 Bi (jf x0 x1) fun v4=>
 If ((((decide (x2<1))||(decide ((v2.aX.length:Int)<x2)))||(decide (x3<0)))||(decide ((v4.length:Int)≤x3))) (
  some (0,false))<|
 Ck (eN (v2.aX.length) 0 x2)<|
 fO (E:=Int×Bool) () 46 [] [3,11,44,45] [] i2 i2 [] [] m64 (List.length (List.take (Int.toNat x2) v2.aX):Int) (fun k6 _=>
  Bi (idx (List.take (Int.toNat x2) v2.aX) (k6:Int)) fun v9=>
  fO (E:=Int×Bool) () 53 [] [3,11,44,45,46,51,52] [] i2 i2 [] [] m64 (v9.bP.length:Int) (fun k10 _=>
   Bi (idx v9.bP (k10:Int)) fun mU=>
   Bi (idx v4 x3) fun qs=>
   If (mU.bn.toList==qs.toList) (
    some (.done ((mU.dM.length:Int),true)))<|
   nX [] [] (some (.next ()))) fun
   |.next _=>
    nX [] [] (some (.next ()))
   |.done r=>some (.done r)) fun
  |.next _=>
   some (0,false)
  |.done r=>some r
instance OH{x0 x1 x2 x3}:MC (ph x0 x1 x2 x3) fun r=>bx prog 107 [.jA (sQ x0),.I x1,.I x2,.I x3] (.gW [.I r.1,.bool r.2]):=⟨fun hM=>by unfold ph at hM;exact pb func107 ntmps107⟩
noncomputable def sJ(x0:jv)(x1:Int)(x2:Int)(x3:Int):Option (cD×Bool) :=
 If ((decide (x1<0))||(decide ((x0.oC.length:Int)≤x1))) (
  some ((cD.mk 0 0 []),false))<|
 Bi (idx x0.oC x1) fun v2=>
 Bi (gb (!((((decide (x2<1))||(decide ((v2.BJ.length:Int)<x2)))||(decide (x3<0)))||(decide ((v2.zu.length:Int)≤x3)))) [] (idx v2.Hq (IntKind.wrap .i64 (x2-1)))) fun v4=>
 Bi (gb (!((((decide (x2<1))||(decide ((v2.BJ.length:Int)<x2)))||(decide (x3<0)))||(decide ((v2.zu.length:Int)≤x3)))) false (idx v4 x3)) fun v6=>
 If (((((decide (x2<1))||(decide ((v2.BJ.length:Int)<x2)))||(decide (x3<0)))||(decide ((v2.zu.length:Int)≤x3)))||(!v6)) (
  some ((cD.mk 0 0 []),false))<|
 Bi (idx v2.BJ (IntKind.wrap .i64 (x2-1))) fun v8=>
 Bi (idx v8 x3) fun v10=>
 Bi (cl 79 [(50000,79)] (fK v10.rS)) fun v12=>
 wk [.z 79]<|some (({ v10 with rS:=v12 }:cD),true)
instance Qa{x0 x1 x2 x3}:MC (sJ x0 x1 x2 x3) fun r=>bx prog 157 [.jA (KF x0),.I x1,.I x2,.I x3] (.gW [.agg (CN r.1),.bool r.2]):=⟨fun hM=>by unfold sJ at hM;exact pb func157 ntmps157⟩
noncomputable def qP(x0:cH)(x1:Int)(x2:Int)(x3:Int):Option (cD×Bool) :=
 Bi (sJ x0.yw x1 x2 x3) fun v2=>
 some (v2.1,v2.2)
instance Rk{x0 x1 x2 x3}:MC (qP x0 x1 x2 x3) fun r=>bx prog 108 [.jA (sQ x0),.I x1,.I x2,.I x3] (.gW [.agg (CN r.1),.bool r.2]):=⟨fun hM=>by unfold qP at hM;exact pb func108 ntmps108⟩
noncomputable def oI(x0:cH)(x1:Int):Option ByteArray :=
 Bi (gC x0 x1) fun v2=>
 some v2.bn
instance Rl{x0 x1}:MC (oI x0 x1) fun r=>bx prog 222 [.jA (sQ x0),.I x1] (.str r):=⟨fun hM=>by unfold oI at hM;exact pb func222 ntmps222⟩
noncomputable def nT(x0:cH)(x1:Int)(x2:Int):Option Int :=
 Bi (fb x0) fun v2=>
 If ((((decide (x1<0))||(decide (v2≤x1)))||(decide (x2<0)))||(decide (v2≤x2))) (
  some 0)<|
 fO (E:=Int) () 34 [] [0,1,2,32,33] [] i2 i2 [] [] m64 (x0.qn.fP.length:Int) (fun k3 _=>
  Bi (idx x0.qn.fP (k3:Int)) fun v6=>
  Bi (oI x0 x1) fun v8=>
  Bi (gb (v6.gS.toList==v8.toList) (ByteArray.empty) (oI x0 x2)) fun v10=>
  If ((v6.gS.toList==v8.toList)&&(v6.uS.toList==v10.toList)) (
   some (.done v6.qN))<|
  nX [] [] (some (.next ()))) fun
  |.next _=>
   some 1
  |.done r=>some r
instance MX{x0 x1 x2}:MC (nT x0 x1 x2) fun r=>bx prog 167 [.jA (sQ x0),.I x1,.I x2] (.I r):=⟨fun hM=>by unfold nT at hM;exact pb func167 ntmps167⟩
noncomputable def rK(x0:aq):Option aq :=
 Ck (dL 8 (x0.bR.length))<|
 wk [.z 5]<|some x0
instance YP{x0}:MC (rK x0) fun r=>bx prog 83 [.agg (yf x0)] (.agg (yf r)):=⟨fun hM=>by unfold rK at hM;exact pb func83 ntmps83⟩
noncomputable def tA(x0:bS):Option (List aq) :=
 Ck (iJ 72 0 (x0.aW.length:Int))<|
 eT 9 cW (aq.mk (aH.mk 0 0 0 0) 0 0 []) fun _=>
 fL ([]:List aq) 13 [] [11,12] [] (fun _ t=>(3,.row 10001)::t) (fun s t=>(10001,some (.R 123 7 cW s))::t) [] [(10001,9)] m64 (x0.aW.length:Int) (fun k2 s4=>
  Bi (idx x0.aW (k2:Int)) fun v6=>
  Bi (rK v6) fun v8=>
  eT 20 (bA 7 cW) [v8] fun v9=>
  Ck (dL 72 (s4.length+List.length v9))<|
  nX [] [(10001,21)] (some (s4++v9))) fun s4=>
 wk [.z 10001]<|some s4
instance Vj{x0}:MC (tA x0) fun r=>bx prog 93 [.agg (zn x0)] (.L 7 cW r):=⟨fun hM=>by unfold tA at hM;exact pb func93 ntmps93⟩
noncomputable def mu(x0:Int)(x1:Int)(x2:Int):Option Bool :=
 some ((decide (x1≤x0))&&(decide (x0≤x2)))
instance Wj{x0 x1 x2}:MC (mu x0 x1 x2) fun r=>bx prog 140 [.I x0,.I x1,.I x2] (.bool r):=⟨fun hM=>by unfold mu at hM;exact pb func140 ntmps140⟩
@[reducible] noncomputable def jj(x0:aH)(s8:Int):Option Int :=
 Bi (mu x0.gA 0 7) fun v3=>
 Bi (gb (!(!v3)) (false) (mu x0.gB 0 s8)) fun v5=>
 Bi (gb (!((!v3)||(!v5))) (false) (mu x0.gN 0 65535)) fun v7=>
 If (((!v3)||(!v5))||(!v7)) (
  some 1)<|
 some 0
@[reducible] noncomputable def pv(x0:aH)(wH:Bool):Option Int :=
 If wH (
  nX [] [] (jj x0 7))<|
 nX [] [] (jj x0 0)
noncomputable def sa(x0:aH):Option Int :=
 If ((decide (x0.bw<1))||(decide (9<x0.bw))) (
  some 1)<|
 jn (jj x0) 4 [] [1,3] [1] (fun s t=>(4,.I s)::t) i2<|
 If (x0.bw==1) (
  nX [] [] (jj x0 7))<|
 If (x0.bw==2) (
  nX [] [] (jj x0 0))<|
 jn (pv x0) 9 [] [1,3,4] [1] (fun s t=>(19,.bool s)::t) i2<|
 If (x0.bw==5) (
  nX [] [] (pv x0 (x0.bw==5)))<|
 If (x0.bw==6) (
  nX [] [] (pv x0 (x0.bw==6)))<|
 nX [] [] (pv x0 (x0.bw==7))
instance Tn{x0}:MC (sa x0) fun r=>bx prog 138 [.agg (cM x0)] (.I r):=⟨fun hM=>by unfold sa at hM;exact pb func138 ntmps138⟩
noncomputable def xS(x0:Int):Option Bool :=
 some ((((x0==1)||(x0==2))||(x0==3))||(x0==4))
instance YO{x0}:MC (xS x0) fun r=>bx prog 139 [.int .u8 x0] (.bool r):=⟨fun hM=>by unfold xS at hM;exact pb func139 ntmps139⟩
@[reducible] noncomputable def lx(x0:aq)(a3:Int)(sx:Int×Int×Int):Option Int :=
 Bi (mu x0.AN 0 a3) fun v8=>
 Bi (gb (!(!v8)) (false) (mu x0.gD sx.1 sx.2.1)) fun v10=>
 If (((!v8)||(!v10))||(decide (sx.2.2<(x0.bR.length:Int)))) (
  some 1)<|
 some 0
@[reducible] noncomputable def uC(x0:aq)(a3:Int)(tF:Bool):Option Int :=
 If tF (
  nX [] [] (lx x0 a3 (1,200,0)))<|
 If (x0.cG.bw==7) (
  nX [] [] (lx x0 a3 (0,200,0)))<|
 nX [] [] (lx x0 a3 (0,0,0))
@[reducible] noncomputable def uD(x0:aq)(sw:Int):Option Int :=
 jn (lx x0 sw) 7 [] [1,4] [1] (fun s t=>(5,.I s.1)::(6,.I s.2.1)::(7,.I s.2.2)::t) i2<|
 If (x0.cG.bw==1) (
  nX [] [] (lx x0 sw (0,0,4)))<|
 If (x0.cG.bw==2) (
  nX [] [] (lx x0 sw (0,1,0)))<|
 If (x0.cG.bw==3) (
  nX [] [] (lx x0 sw (1,3,0)))<|
 jn (uC x0 sw) 14 [] [1,4,5,6,7,20] [1] (fun s t=>(27,.bool s)::t) i2<|
 If (x0.cG.bw==6) (
  nX [] [] (uC x0 sw (x0.cG.bw==6)))<|
 nX [] [] (uC x0 sw (x0.cG.bw==9))
noncomputable def tS(x0:aq):Option Int :=
 Bi (sa x0.cG) fun v2=>
 If (v2 != 0) (
  some v2)<|
 jn (uD x0) 5 [] [1,5,6,7] [1] (fun s t=>(4,.I s)::t) i2<|
 Bi (xS x0.cG.bw) fun pF=>
 If pF (
  nX [] [] (uD x0 200))<|
 nX [] [] (uD x0 0)
instance YR{x0}:MC (tS x0) fun r=>bx prog 82 [.agg (yf x0)] (.I r):=⟨fun hM=>by unfold tS at hM;exact pb func82 ntmps82⟩
noncomputable def nA(x0:cH):Option Int :=
 some (x0.qn.aR.length:Int)
instance PX{x0}:MC (nA x0) fun r=>bx prog 51 [.jA (sQ x0)] (.I r):=⟨fun hM=>by unfold nA at hM;exact pb func51 ntmps51⟩
noncomputable def mM(x0:cH)(x1:Int):Option Int :=
 Bi (gC x0 x1) fun v2=>
 some (v2.aX.length:Int)
instance LL{x0 x1}:MC (mM x0 x1) fun r=>bx prog 152 [.jA (sQ x0),.I x1] (.I r):=⟨fun hM=>by unfold mM at hM;exact pb func152 ntmps152⟩
@[reducible] noncomputable def nB(x0:aq)(x1:cH)(s9:Int×Int):Option Int :=
 If ((decide (s9.1≤x0.cG.gA))||(decide (s9.2≤x0.cG.gB))) (
  some 9)<|
 Bi (gb (x0.cG.bw==3) (0) (mM x1 x0.cG.gA)) fun v8=>
 If ((x0.cG.bw==3)&&(decide (v8<x0.gD))) (
  some 9)<|
 some 0
@[reducible] noncomputable def qh(x0:aq)(x1:cH)(v4:Int)(MF:Bool):Option Int :=
 If MF (
  nX [] [] (nB x0 x1 (v4,v4)))<|
 nX [] [] (nB x0 x1 (v4,1))
noncomputable def tB(x0:aq)(x1:cH):Option Int :=
 Bi (tS x0) fun v2=>
 If (v2 != 0) (
  some 1)<|
 Bi (fb x1) fun v4=>
 jn (nB x0 x1) 4 [] [1,2] [2] (fun s t=>(5,.I s.1)::(6,.I s.2)::t) i2<|
 If (x0.cG.bw==1) (
  Bi (jf x1 x0.cG.gA) fun v11=>
  nX [] [] (nB x0 x1 (v4,(v11.length:Int))))<|
 If (x0.cG.bw==2) (
  Bi (nA x1) fun mU=>
  nX [] [] (nB x0 x1 (mU,1)))<|
 jn (qh x0 x1 v4) 9 [] [1,2,5,6] [2] (fun s t=>(31,.bool s)::t) i2<|
 If (x0.cG.bw==5) (
  nX [] [] (qh x0 x1 v4 (x0.cG.bw==5)))<|
 If (x0.cG.bw==6) (
  nX [] [] (qh x0 x1 v4 (x0.cG.bw==6)))<|
 nX [] [] (qh x0 x1 v4 (x0.cG.bw==7))
instance Vk{x0 x1}:MC (tB x0 x1) fun r=>bx prog 95 [.agg (yf x0),.jA (sQ x1)] (.I r):=⟨fun hM=>by unfold tB at hM;exact pb func95 ntmps95⟩
end Go.Proofs.YtpeihknododmlaaGreatDoor
