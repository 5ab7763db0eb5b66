/- Part 8 of what the claim leans on. -/
import Derived.Test.YtaafmkmdfcgeaaaGreatDoorRBv7
set_option maxRecDepth 100000
set_option maxHeartbeats 4000000
set_option linter.unusedVariables false
set_option linter.unusedSimpArgs false
noncomputable section
namespace Go.Proofs.YtaafmkmdfcgeaaaGreatDoor
open Go.Proofs.Tryz
open Go.RowKit
attribute [local irreducible] gL dH br gY jP dK fC kY
def qo(x0:cy)(x1:Int):Option Int :=Bi (vC x0.akN x1) λv2=>some v2
instance QP{x0 x1}:MC (qo x0 x1) λr=>br prog 419 [.agg (abp x0),.I x1] (.I r):=.p func419 ntmps419
def gW(x0:List cy)(x1:Int):Option (Int×Bool) :=wL (E:=Int) (0,(x0.length:Int)) [] [0,1,2,8] [] (λs t=>(9,.I s.1)::(10,.I s.2)::t) i2 [] [] (λs3=>If (decide (s3.1<s3.2)) (Bi (idx x0 (IntKind.wrap .i64 (Int.fdiv (IntKind.wrap .u64 (IntKind.wrap .i64 (s3.1+s3.2))) (2^min (Int.toNat 1) (IntKind.bits .u64))))) λv5=>Bi (qo v5 x1) λv7=>If (decide (v7<0)) (nX [] [] (some (.next ((IntKind.wrap .i64 ((IntKind.wrap .i64 (Int.fdiv (IntKind.wrap .u64 (IntKind.wrap .i64 (s3.1+s3.2))) (2^min (Int.toNat 1) (IntKind.bits .u64))))+1)),s3.2))))<|nX [] [] (some (.next (s3.1,(IntKind.wrap .i64 (Int.fdiv (IntKind.wrap .u64 (IntKind.wrap .i64 (s3.1+s3.2))) (2^min (Int.toNat 1) (IntKind.bits .u64))))))))<|some (.done s3.1)) λe12=>Bi (gb (decide (e12<(x0.length:Int))) (cy.mk 0 0) (idx x0 e12)) λv9=>Bi (gb (decide (e12<(x0.length:Int))) (0) (qo v9 x1)) λv11=>rX [] (some (e12,((decide (e12<(x0.length:Int)))&&(v11==0))))
instance wQ{x0 x1}:MA (gW x0 x1) prog 418 (λ_=>0) λr=>⟨[.L 2 ur x0,.I x1,.val (.func (.func 419) #[] #[])],[],.gh [.I r.1,.bool r.2],[],[]⟩:=.b func418 ntmps418
def ni(x0:aQ)(x1:Int):Option (Int×Bool) :=Bi (cl 9 [] (gW x0.ba x1)) λv2=>some (v2.1,v2.2)
instance Uu{x0 x1}:MC (ni x0 x1) λr=>br prog 409 [.agg (CS x0),.I x1] (.gh [.I r.1,.bool r.2]):=.p func409 ntmps409
def ku(x0:aQ)(x1:Int):Option (Int×Bool) :=Bi (ni x0 x1) λv2=>If (!v2.2) (some (0,false))<|Bi (idx x0.ba v2.1) λv4=>some (v4.Pc,true)
instance WA{x0 x1}:MC (ku x0 x1) λr=>br prog 379 [.agg (CS x0),.I x1] (.gh [.I r.1,.bool r.2]):=.p func379 ntmps379
def qW(x0:aQ):Option Int :=some (x0.ba.length:Int)
instance Wz{x0}:MC (qW x0) λr=>br prog 380 [.agg (CS x0)] (.I r):=.p func380 ntmps380
@[reducible] def ig(s2:(List cy)):Option (List cy) :=rX [(5000,1001)] (some s2)
@[reducible] def kQ(x1:Int)(s5:Unit):Option (List cy) :=jn ig 3 [] [] [] (λ_ t=>(0,.row 1001)::t) (λs t=>(1001,some (.R 610 2 ur s))::t)<|If (decide (0<(IntKind.wrap .i64 (x1-(IntKind.wrap .i64 (0-0)))))) (Ck (0<(IntKind.wrap .i64 (x1-(IntKind.wrap .i64 (0-0))))∧dK 16 (Int.toNat (IntKind.wrap .i64 (x1-(IntKind.wrap .i64 (0-0))))))<|eE 22 ur (cy.mk 0 0) λ_=>Ck (fC (List.length (List.replicate (Int.toNat (IntKind.wrap .i64 (x1-(IntKind.wrap .i64 (0-0))))) (cy.mk 0 0))) 0 0)<|nX [] [(1001,25)] (ig (List.take (Int.toNat 0) (List.replicate (Int.toNat (IntKind.wrap .i64 (x1-(IntKind.wrap .i64 (0-0))))) (cy.mk 0 0)))))<|nX [.r 0 1002 610 2] [(1001,1002)] (ig ([]:List cy))
def iW(x1:Int):Option (List cy) :=jn (kQ x1) 1 [] [0,1] [] i2 i2<|If (decide (x1<0)) (none)<|nX [] [] (kQ x1 ())
instance CD{x1}:MA (iW x1) prog 421 (λ_=>1) λr=>⟨[.cu,.I x1],[],.row 5000,[(5000,some (.R 610 2 ur r))],[5000]⟩:=.b func421 ntmps421
def gg(x0:List (List cy)):Option (List cy) :=fL 0 11 [] [0,9,10] [] (λs t=>(3,.I s)::t) i2 [] [] m64 (x0.length:Int) (λk1 s3=>Bi (idx x0 (k1:Int)) λkG=>If (decide ((IntKind.wrap .i64 (s3+(kG.length:Int)))<0)) (none)<|nX [] [] (some (IntKind.wrap .i64 (s3+(kG.length:Int))))) λs3=>Bi (cl 24 [(5000,24)] (iW s3)) λv5=>fL v5 27 [] [25,26] [] (λ_ t=>(6,.row 1001)::t) (λs t=>(1001,some (.R 610 2 ur s))::t) [] [(1001,24)] m64 (x0.length:Int) (λk6 s8=>Bi (idx x0 (k6:Int)) λv10=>Ck (dK 16 (s8.length+List.length v10))<|nX [] [(1001,33)] (some (s8++v10))) λs8=>rX [(5000,1001)] (some s8)
instance CE{x0}:MA (gg x0) prog 410 (λ_=>1) λr=>⟨[.L 1 (bA 2 ur) x0],[],.row 5000,[(5000,some (.R 610 2 ur r))],[5000]⟩:=.b func410 ntmps410
@[reducible] def qp(x0:aQ)(x1:Int)(x2:Int)(v2:Int×Bool)(EK:(List cy)):Option aQ :=Ck (fC (x0.ba.length) 0 v2.1)<|eE 42 (bA 2 ur) [(cy.mk x1 x2)] λv8=>eE 44 (bA 1 (bA 2 ur)) [(List.take (Int.toNat v2.1) x0.ba),v8,EK] λv9=>Bi (cl 45 [(5000,45)] (gg v9)) λv11=>wk [.z 45]<|some (aQ.mk v11)
def mf(x0:aQ)(x1:Int)(x2:Int):Option aQ :=Bi (ni x0 x1) λv2=>Bi (gb v2.2 (cy.mk 0 0) (idx x0.ba v2.1)) λv4=>If (v2.2&&(v4.Pc==x2)) (some x0)<|Ck (fC (x0.ba.length) v2.1 (x0.ba.length))<|jn (qp x0 x1 x2 v2) 5 [] [1,2,3,6,7] [3,6] (λs t=>(9,.L 2 ur s)::t) i2<|If v2.2 (Ck (fC (List.length (List.drop (Int.toNat v2.1) x0.ba)) 1 (List.length (List.drop (Int.toNat v2.1) x0.ba)))<|nX [] [] (qp x0 x1 x2 v2 (List.drop (Int.toNat 1) (List.drop (Int.toNat v2.1) x0.ba))))<|nX [] [] (qp x0 x1 x2 v2 (List.drop (Int.toNat v2.1) x0.ba))
instance Wy{x0 x1 x2}:MC (mf x0 x1 x2) λr=>br prog 408 [.agg (CS x0),.I x1,.I x2] (.agg (CS r)):=⟨λhM=>by unfold mf at hM;exact pbz func408 ntmps408 (wz [42,44])⟩
def BH(x1:Int)(x2:Int)(o0:aJ):Option aJ :=Bi (ku o0.aE.bL.ez x1) λv2=>Bi (gb (!v2.2) (0) (qW o0.aE.bL.ez)) λv4=>If (v2.2||(decide (v4<16))) (Bi (mf o0.aE.bL.ez x1 x2) λv6=>rX [] (some ({ o0 with aE:=({ o0.aE with bL:=({ o0.aE.bL with ez:=v6 }:aM) }:bZ) }:aJ)))<|rX [] (some o0)
instance ahO{x1 x2 o0}:MA (BH x1 x2 o0) prog 378 (λ_=>6) λr=>⟨[.ref 9000 2,.I x1,.I x2],[(9000,some (.bJ 425 (aJ.b0 o0 (.row 9001) (.row 9002) (.row 9003) (.row 9004) (.row 9005)))),(9001,some (.R 2 1 (DV.int .i64) o0.aE.bL.eG)),(9002,some (.R 199 1 iU o0.aE.bL.dh)),(9003,some (.R 343 8 mB o0.aE.dt)),(9004,some (.R 4 1 DV.bool o0.ca.aY)),(9005,some (.R 2 1 (DV.int .i64) o0.cG))],.gh [],[(9000,some (.bJ 425 (aJ.b0 r (.row 9001) (.row 9002) (.row 9003) (.row 9004) (.row 9005)))),(9001,some (.R 2 1 (DV.int .i64) r.aE.bL.eG)),(9002,some (.R 199 1 iU r.aE.bL.dh)),(9003,some (.R 343 8 mB r.aE.dt)),(9004,some (.R 4 1 DV.bool r.ca.aY)),(9005,some (.R 2 1 (DV.int .i64) r.cG))],[]⟩:=.e func378 ntmps378
@[reducible] def jY(v2:Int×Bool)(a15:Int)(lI:Int×aJ)(LY:(List Int)×(List aQ)×(List cy)×(List cw)×Int×(List aC)×(List Int)×Int×(List Bool)×Int×(List Int)×(List Int)×Int×Int×Int×Bool×Int):Option aJ :=eE 97 (bA 8 mB) [(cw.mk a15 0 0 0 lI.1 LY.2.2.2.2.2.2.2.2.2.2.2.2.2.2.2.2 v2.2 [])] λCu=>Ck (dK 80 (LY.2.2.2.1.length+List.length Cu))<|rX [(5000,98),(5001,1003)] (some (aJ.mk (bZ.mk (aM.mk LY.1 LY.2.1 (aQ.mk LY.2.2.1)) (LY.2.2.2.1++Cu) LY.2.2.2.2.1) LY.2.2.2.2.2.1 (ew.mk LY.2.2.2.2.2.2.1 LY.2.2.2.2.2.2.2.1 LY.2.2.2.2.2.2.2.2.1 LY.2.2.2.2.2.2.2.2.2.1 LY.2.2.2.2.2.2.2.2.2.2.1) LY.2.2.2.2.2.2.2.2.2.2.2.1 LY.2.2.2.2.2.2.2.2.2.2.2.2.1 LY.2.2.2.2.2.2.2.2.2.2.2.2.2.1 LY.2.2.2.2.2.2.2.2.2.2.2.2.2.2.1 LY.2.2.2.2.2.2.2.2.2.2.2.2.2.2.2.1))
@[reducible] def jZ(x1:aC)(o0:aJ)(v2:Int×Bool)(Lc:(List cy)×Int×(List aC)×(List Int)×Int×Int×(List Int)×(List Int)×Int×Int×Int×Bool×Int×Int):Option aJ :=Bi (cl 43 [(9005,1001),(5000,1002)] (eB (aJ.mk (bZ.mk ({ o0.aE.bL with ez:=(aQ.mk Lc.1) }:aM) o0.aE.dt Lc.2.1) Lc.2.2.1 (ew.mk Lc.2.2.2.1 Lc.2.2.2.2.1 o0.ca.aY Lc.2.2.2.2.2.1 Lc.2.2.2.2.2.2.1) Lc.2.2.2.2.2.2.2.1 Lc.2.2.2.2.2.2.2.2.1 Lc.2.2.2.2.2.2.2.2.2.1 Lc.2.2.2.2.2.2.2.2.2.2.1 Lc.2.2.2.2.2.2.2.2.2.2.2.1))) λlI=>jn (jY v2 Lc.2.2.2.2.2.2.2.2.2.2.2.2.1 lI) 10009 [9000,9001,9002,9003,9004,9005] [0,6] [] i2 (λs t=>(6,some (.bJ 343 [.int .u8 Lc.2.2.2.2.2.2.2.2.2.2.2.2.1,.I 0,.I 0,.I 0,.I lI.1,.I s.2.2.2.2.2.2.2.2.2.2.2.2.2.2.2.2,.bool v2.2,.cu]))::(1003,some (.R 2 1 (DV.int .i64) s.2.2.2.2.2.2.2.2.2.2.2.1))::(9000,some (.bJ 425 (aJ.b0 (aJ.mk (bZ.mk (aM.mk [] [] (aQ.mk s.2.2.1)) [] s.2.2.2.2.1) s.2.2.2.2.2.1 (ew.mk s.2.2.2.2.2.2.1 s.2.2.2.2.2.2.2.1 [] s.2.2.2.2.2.2.2.2.2.1 s.2.2.2.2.2.2.2.2.2.2.1) [] s.2.2.2.2.2.2.2.2.2.2.2.2.1 s.2.2.2.2.2.2.2.2.2.2.2.2.2.1 s.2.2.2.2.2.2.2.2.2.2.2.2.2.2.1 s.2.2.2.2.2.2.2.2.2.2.2.2.2.2.2.1) (.row 9001) (.row 9002) (.row 9003) (.row 9004) (.row 1003))))::(9001,some (.R 2 1 (DV.int .i64) s.1))::(9002,some (.R 199 1 iU s.2.1))::(9003,some (.R 343 8 mB s.2.2.2.1))::(9004,some (.R 4 1 DV.bool s.2.2.2.2.2.2.2.2.1))::t)<|If v2.2 (nX [] [(1003,1002)] (jY v2 Lc.2.2.2.2.2.2.2.2.2.2.2.2.1 lI (o0.aE.bL.eG,o0.aE.bL.dh,lI.2.aE.bL.ez.ba,o0.aE.dt,lI.2.aE.jm,lI.2.cM,lI.2.ca.cE,lI.2.ca.Dt,o0.ca.aY,lI.2.ca.ez,lI.2.ca.xp,lI.2.cG,x1.gB,lI.2.ml,lI.2.dE,lI.2.mm,Lc.2.2.2.2.2.2.2.2.2.2.2.2.2)))<|If (x1.cZ==32) (Bi (cl 89 [(9005,1002)] (BH lI.1 Lc.2.2.2.2.2.2.2.2.2.2.2.2.2 ({ lI.2 with aE:=(bZ.mk ({ o0.aE.bL with ez:=lI.2.aE.bL.ez }:aM) o0.aE.dt lI.2.aE.jm),ca:=({ lI.2.ca with aY:=o0.ca.aY }:ew) }:aJ))) λv40=>nX [] [(1003,1002)] (jY v2 Lc.2.2.2.2.2.2.2.2.2.2.2.2.1 lI (v40.aE.bL.eG,v40.aE.bL.dh,v40.aE.bL.ez.ba,v40.aE.dt,v40.aE.jm,v40.cM,v40.ca.cE,v40.ca.Dt,v40.ca.aY,v40.ca.ez,v40.ca.xp,v40.cG,v40.sa,v40.ml,v40.dE,v40.mm,Lc.2.2.2.2.2.2.2.2.2.2.2.2.2)))<|Bi (ku lI.2.aE.bL.ez lI.1) λGG=>Bi (idx o0.aE.bL.eG x1.gA) λYA=>eE 68 (DV.int .i64) GG.1 λYF=>nX [] [(1003,1002)] (jY v2 Lc.2.2.2.2.2.2.2.2.2.2.2.2.1 lI ((List.set o0.aE.bL.eG (Int.toNat x1.gA) YF),o0.aE.bL.dh,lI.2.aE.bL.ez.ba,o0.aE.dt,lI.2.aE.jm,lI.2.cM,lI.2.ca.cE,lI.2.ca.Dt,o0.ca.aY,lI.2.ca.ez,lI.2.ca.xp,lI.2.cG,lI.2.sa,lI.2.ml,lI.2.dE,lI.2.mm,GG.1))
def pz(x1:aC)(o0:aJ):Option aJ :=Bi (mL o0.ca.xp (IntKind.wrap .i64 (o0.ca.ez+o0.dE))) λv2=>jn (jZ x1 o0 v2) 4 [9000,9001,9002,9003,9004,9005] [0,3,5,6] [3,9001,9002,9003,9004] i2 (λs t=>(6,some (.bJ 343 [.int .u8 s.2.2.2.2.2.2.2.2.2.2.2.2.1,.I 0,.I 0,.I 0,.I 0,.I s.2.2.2.2.2.2.2.2.2.2.2.2.2,.bool v2.2,.cu]))::(1001,some (.R 2 1 (DV.int .i64) s.2.2.2.2.2.2.2.1))::(9000,some (.bJ 425 (aJ.b0 (aJ.mk (bZ.mk (aM.mk [] [] (aQ.mk s.1)) [] s.2.1) s.2.2.1 (ew.mk s.2.2.2.1 s.2.2.2.2.1 [] s.2.2.2.2.2.1 s.2.2.2.2.2.2.1) [] s.2.2.2.2.2.2.2.2.1 s.2.2.2.2.2.2.2.2.2.1 s.2.2.2.2.2.2.2.2.2.2.1 s.2.2.2.2.2.2.2.2.2.2.2.1) (.row 9001) (.row 9002) (.row 9003) (.row 9004) (.row 1001))))::t)<|If (x1.cZ==32) (Bi (cl 39 [(5000,1004)] (eB ({ o0 with dE:=(IntKind.wrap .i64 (o0.dE+1)) }:aJ))) λFy=>nX [] [(1001,1004)] (jZ x1 o0 v2 (Fy.2.aE.bL.ez.ba,Fy.2.aE.jm,Fy.2.cM,Fy.2.ca.cE,Fy.2.ca.Dt,Fy.2.ca.ez,Fy.2.ca.xp,Fy.2.cG,Fy.2.sa,Fy.2.ml,Fy.2.dE,Fy.2.mm,3,Fy.1)))<|nX [] [(1001,9005)] (jZ x1 o0 v2 (o0.aE.bL.ez.ba,o0.aE.jm,o0.cM,o0.ca.cE,o0.ca.Dt,o0.ca.ez,o0.ca.xp,o0.cG,o0.sa,o0.ml,(IntKind.wrap .i64 (o0.dE+1)),o0.mm,4,0))
instance QA{x1 o0}:MA (pz x1 o0) prog 343 (λ_=>8) λr=>⟨[.ref 9000 0,.agg (CU x1)],[(9000,some (.bJ 425 (aJ.b0 o0 (.row 9001) (.row 9002) (.row 9003) (.row 9004) (.row 9005)))),(9001,some (.R 2 1 (DV.int .i64) o0.aE.bL.eG)),(9002,some (.R 199 1 iU o0.aE.bL.dh)),(9003,some (.R 343 8 mB o0.aE.dt)),(9004,some (.R 4 1 DV.bool o0.ca.aY)),(9005,some (.R 2 1 (DV.int .i64) o0.cG))],.gh [],[(9000,some (.bJ 425 (aJ.b0 r (.row 9001) (.row 9002) (.row 5000) (.row 9004) (.row 5001)))),(9001,some (.R 2 1 (DV.int .i64) r.aE.bL.eG)),(9002,some (.R 199 1 iU r.aE.bL.dh)),(9004,some (.R 4 1 DV.bool r.ca.aY)),(5000,some (.R 343 8 mB r.aE.dt)),(5001,some (.R 2 1 (DV.int .i64) r.cG)),(9003,none),(9005,none)],[5000,5001]⟩:=.e func343 ntmps343
def zA(x0:Nat)(x1:Int)(x2:Int)(o0:List aQ):Option (List aQ) :=Bi (idx o0 ((x0:Nat):Int)) λv2=>Bi (ku v2 x1) λv4=>Bi (gb (!v4.2) (0) (qW v2)) λv6=>If (v4.2||(decide (v6<16))) (Bi (mf v2 x1 x2) λv8=>eE 31 iU v8 λv9=>rX [] (some (List.set o0 (Int.toNat ((x0:Nat):Int)) v9)))<|rX [] (some o0)
instance aga{x0 x1 x2 o0}:MA (zA x0 x1 x2 o0) prog 378 (λ_=>1) λr=>⟨[.rp 9000 (Int.toNat ((x0:Nat):Int)) 1 0,.I x1,.I x2],[(9000,some (.R 199 1 iU o0))],.gh [],[(9000,some (.R 199 1 iU r))],[]⟩:=.e func378 ntmps378
def qs(x0:aQ)(x1:Int):Option aQ :=Bi (ni x0 x1) λv2=>If (!v2.2) (some x0)<|Ck (fC (x0.ba.length) 0 v2.1)<|Ck (fC (x0.ba.length) (IntKind.wrap .i64 (v2.1+1)) (x0.ba.length))<|eE 25 (bA 1 (bA 2 ur)) [(List.take (Int.toNat v2.1) x0.ba),(List.drop (Int.toNat (IntKind.wrap .i64 (v2.1+1))) x0.ba)] λv5=>Bi (cl 26 [(5000,26)] (gg v5)) λv7=>wk [.z 26]<|some (aQ.mk v7)
instance QQ{x0 x1}:MC (qs x0 x1) λr=>br prog 381 [.agg (CS x0),.I x1] (.agg (CS r)):=⟨λhM=>by unfold qs at hM;exact pbz func381 ntmps381 (wz [25])⟩
def oD(x1:Int)(x2:Nat)(o0:aJ):Option aJ :=If (x1==6) (Bi (idx o0.aE.bL.dh ((x2:Nat):Int)) λv2=>Bi (cl 19 [(5000,1001)] (eB o0)) λv4=>Bi (ku v2 v4.1) λv6=>Bi (cl 25 [(9005,1001),(5000,1002)] (eV v6.1 ({ v4.2 with aE:=(bZ.mk ({ o0.aE.bL with ez:=v4.2.aE.bL.ez }:aM) o0.aE.dt v4.2.aE.jm),ca:=({ v4.2.ca with aY:=o0.ca.aY }:ew) }:aJ))) λv8=>rX [(5000,1002)] (some ({ v8 with aE:=(bZ.mk ({ o0.aE.bL with ez:=v8.aE.bL.ez }:aM) o0.aE.dt v8.aE.jm),ca:=({ v8.ca with aY:=o0.ca.aY }:ew) }:aJ)))<|If (x1==7) (Bi (idx o0.aE.bL.dh ((x2:Nat):Int)) λv10=>Bi (cl 33 [(5000,1003)] (eB o0)) λv12=>Bi (ku v10 v12.1) λll=>Bi (BG ll.2) λmA=>Bi (cl 40 [(9005,1003),(5000,1004)] (eV mA ({ v12.2 with aE:=(bZ.mk ({ o0.aE.bL with ez:=v12.2.aE.bL.ez }:aM) o0.aE.dt v12.2.aE.jm),ca:=({ v12.2.ca with aY:=o0.ca.aY }:ew) }:aJ))) λlI=>rX [(5000,1004)] (some ({ lI with aE:=(bZ.mk ({ o0.aE.bL with ez:=lI.aE.bL.ez }:aM) o0.aE.dt lI.aE.jm),ca:=({ lI.ca with aY:=o0.ca.aY }:ew) }:aJ)))<|If (x1==8) (Bi (idx o0.aE.bL.dh ((x2:Nat):Int)) λv20=>Bi (qW v20) λuQ=>Bi (cl 48 [(5000,1005)] (eV uQ o0)) λv24=>rX [(5000,1005)] (some ({ v24 with aE:=(bZ.mk ({ o0.aE.bL with ez:=v24.aE.bL.ez }:aM) o0.aE.dt v24.aE.jm),ca:=({ v24.ca with aY:=o0.ca.aY }:ew) }:aJ)))<|If (x1==25) (Bi (cl 52 [(5000,1006)] (eB o0)) λxz=>Bi (cl 55 [(9005,1006),(5000,1007)] (eB ({ xz.2 with aE:=(bZ.mk ({ o0.aE.bL with ez:=xz.2.aE.bL.ez }:aM) o0.aE.dt xz.2.aE.jm),ca:=({ xz.2.ca with aY:=o0.ca.aY }:ew) }:aJ))) λv28=>Bi (cl 57 [(9000,9002)] (zA (Int.toNat ((x2:Nat):Int)) v28.1 xz.1 o0.aE.bL.dh)) λv30=>rX [(5000,1007)] (some ({ v28.2 with aE:=(bZ.mk (aM.mk o0.aE.bL.eG v30 v28.2.aE.bL.ez) o0.aE.dt v28.2.aE.jm),ca:=({ v28.2.ca with aY:=o0.ca.aY }:ew) }:aJ)))<|If (x1==26) (Bi (idx o0.aE.bL.dh ((x2:Nat):Int)) λCJ=>Bi (cl 65 [(5000,1008)] (eB o0)) λCt=>Bi (qs CJ Ct.1) λCu=>eE 67 iU Cu λv37=>rX [(5000,1008)] (some ({ Ct.2 with aE:=(bZ.mk (aM.mk o0.aE.bL.eG (List.set o0.aE.bL.dh (Int.toNat ((x2:Nat):Int)) v37) Ct.2.aE.bL.ez) o0.aE.dt Ct.2.aE.jm),ca:=({ Ct.2.ca with aY:=o0.ca.aY }:ew) }:aJ)))<|rX [(5000,9005)] (some o0)
instance Pj{x1 x2 o0}:MA (oD x1 x2 o0) prog 344 (λ_=>7) λr=>⟨[.ref 9000 0,.int .u8 x1,.rp 9002 (Int.toNat ((x2:Nat):Int)) 1 0],[(9000,some (.bJ 425 (aJ.b0 o0 (.row 9001) (.row 9002) (.row 9003) (.row 9004) (.row 9005)))),(9001,some (.R 2 1 (DV.int .i64) o0.aE.bL.eG)),(9002,some (.R 199 1 iU o0.aE.bL.dh)),(9003,some (.R 343 8 mB o0.aE.dt)),(9004,some (.R 4 1 DV.bool o0.ca.aY)),(9005,some (.R 2 1 (DV.int .i64) o0.cG))],.gh [],[(9000,some (.bJ 425 (aJ.b0 r (.row 9001) (.row 9002) (.row 9003) (.row 9004) (.row 5000)))),(9001,some (.R 2 1 (DV.int .i64) r.aE.bL.eG)),(9002,some (.R 199 1 iU r.aE.bL.dh)),(9003,some (.R 343 8 mB r.aE.dt)),(9004,some (.R 4 1 DV.bool r.ca.aY)),(5000,some (.R 2 1 (DV.int .i64) r.cG)),(9005,none)],[5000]⟩:=.e func344 ntmps344
def Dv(x0:Int)(x1:Int)(x2:Int):Option Int :=If (x2==0) (some 0)<|If ((x2==(-1))&&(x0==12)) (some (IntKind.wrap .i64 (0-x1)))<|If (x2==(-1)) (some 0)<|If (x0==12) (Ck (x2≠0)<|some (IntKind.wrap .i64 (Int.tdiv x1 x2)))<|Ck (x2≠0)<|some (Int.tmod x1 x2)
instance af8{x0 x1 x2}:MC (Dv x0 x1 x2) λr=>br prog 382 [.int .u8 x0,.I x1,.I x2] (.I r):=.p func382 ntmps382
@[reducible] def Dw(s1:Unit):Option (Int×Int) :=some (0,1)
@[reducible] def vw(x0:Int)(x1:Int)(x2:Int)(NG:Bool):Option (Int×Int) :=If NG (Bi (Dv x0 x1 x2) λv4=>some (v4,0))<|If (x0==14) (some ((IntKind.wrap .i64 (x1+x2)),0))<|If (x0==15) (some ((IntKind.wrap .i64 (x1-x2)),0))<|If (x0==16) (Bi (mn (x1==x2)) λv6=>some (v6,0))<|If (x0==17) (Bi (mn (x1 != x2)) λv8=>some (v8,0))<|If (x0==18) (Bi (mn (decide (x1<x2))) λv10=>some (v10,0))<|If (x0==19) (Bi (mn (decide (x1<=x2))) λv12=>some (v12,0))<|If (x0==20) (Bi (mn (decide (x2<x1))) λll=>some (ll,0))<|If (x0==21) (Bi (mn (decide (x2<=x1))) λmA=>some (mA,0))<|If (x0==22) (Bi (mn ((x1 != 0)&&(x2 != 0))) λlI=>some (lI,0))<|If (x0==23) (Bi (mn ((x1 != 0)||(x2 != 0))) λv20=>some (v20,0))<|nX [] [] (Dw ())
def Dx(x0:Int)(x1:Int)(x2:Int):Option (Int×Int) :=jn Dw 1 [] [] [] i2 i2<|If (x0==11) (some ((IntKind.wrap .i64 (x1*x2)),0))<|jn (vw x0 x1 x2) 4 [] [0,1,2,8] [] (λs t=>(14,.bool s)::t) i2<|If (x0==12) (nX [] [] (vw x0 x1 x2 (x0==12)))<|nX [] [] (vw x0 x1 x2 (x0==13))
instance af9{x0 x1 x2}:MC (Dx x0 x1 x2) λr=>br prog 345 [.int .u8 x0,.I x1,.I x2] (.gh [.I r.1,.I r.2]):=.p func345 ntmps345
@[reducible] def gV(x1:aC)(o0:aJ)(s52:Bool):Option aJ :=If s52 (Bi (idx o0.aE.bL.dh x1.gA) λFE=>Bi (cl 187 [(5000,1014)] (oD x1.cZ (Int.toNat x1.gA) o0)) λLU=>rX [(5000,9003),(5001,1014)] (some LU))<|Bi (cl 12 [(5000,1015)] (eB o0)) λYF=>Bi (cl 17 [(9005,1015),(5000,1016)] (eB ({ YF.2 with aE:=(bZ.mk ({ o0.aE.bL with ez:=YF.2.aE.bL.ez }:aM) o0.aE.dt YF.2.aE.jm),ca:=({ YF.2.ca with aY:=o0.ca.aY }:ew) }:aJ))) λxA=>Bi (Dx x1.cZ xA.1 YF.1) λv49=>Bi (cl 24 [(9005,1016),(5000,1017)] (eV v49.1 ({ xA.2 with aE:=(bZ.mk ({ o0.aE.bL with ez:=xA.2.aE.bL.ez }:aM) o0.aE.dt xA.2.aE.jm),ca:=({ xA.2.ca with aY:=o0.ca.aY }:ew) }:aJ))) λv51=>rX [(5000,9003),(5001,1017)] (some ({ v51 with aE:=(bZ.mk ({ o0.aE.bL with ez:=v51.aE.bL.ez }:aM) o0.aE.dt v51.aE.jm),ca:=({ v51.ca with aY:=o0.ca.aY }:ew) }:aJ))
@[reducible] def mU(x1:aC)(o0:aJ)(YC:Bool):Option aJ :=If YC (Bi (cl 158 [(5000,1012),(5001,1013)] (pz x1 o0)) λHG=>rX [(5000,1012),(5001,1013)] (some HG))<|If (x1.cZ==34) (rX [(5000,9003),(5001,9005)] (some ({ o0 with sa:=(o0.cM.length:Int) }:aJ)))<|jn (gV x1 o0) 37 [9000,9001,9002,9003,9004,9005] [0,3] [3,9000,9001,9002,9003,9004,9005] (λs t=>(169,.bool s)::t) i2<|If (x1.cZ==6) (nX [] [] (gV x1 o0 (x1.cZ==6)))<|If (x1.cZ==7) (nX [] [] (gV x1 o0 (x1.cZ==7)))<|If (x1.cZ==8) (nX [] [] (gV x1 o0 (x1.cZ==8)))<|If (x1.cZ==25) (nX [] [] (gV x1 o0 (x1.cZ==25)))<|nX [] [] (gV x1 o0 (x1.cZ==26))
@[reducible] def mV(x1:aC)(o0:aJ)(s54:Bool):Option aJ :=If s54 (Bi (cl 152 [(5000,1010),(5001,1011)] (py x1 o0)) λzK=>rX [(5000,1010),(5001,1011)] (some zK))<|jn (mU x1 o0) 32 [9000,9001,9002,9003,9004,9005] [0,3,10] [3,9000,9001,9002,9003,9004,9005] (λs t=>(153,.bool s)::t) i2<|If (x1.cZ==32) (nX [] [] (mU x1 o0 (x1.cZ==32)))<|nX [] [] (mU x1 o0 (x1.cZ==33))
@[reducible] def mW(x1:aC)(o0:aJ)(s55:Bool):Option aJ :=If s55 (Bi (cl 88 [(5000,1006)] (eB o0)) λv21=>Bi (Fh x1.cZ v21.1) λuj=>Bi (cl 94 [(9005,1006),(5000,1007)] (eV uj.1 ({ v21.2 with aE:=(bZ.mk ({ o0.aE.bL with ez:=v21.2.aE.bL.ez }:aM) o0.aE.dt v21.2.aE.jm),ca:=({ v21.2.ca with aY:=o0.ca.aY }:ew) }:aJ))) λua=>rX [(5000,9003),(5001,1007)] (some ({ ua with aE:=(bZ.mk ({ o0.aE.bL with ez:=ua.aE.bL.ez }:aM) o0.aE.dt ua.aE.jm),ca:=({ ua.ca with aY:=o0.ca.aY }:ew) }:aJ)))<|If (x1.cZ==24) (Bi (cl 106 [(5000,1008)] (eB o0)) λvV=>Bi (idx o0.aE.bL.eG x1.gA) λzJ=>eE 107 (DV.int .i64) vV.1 λv30=>rX [(5000,9003),(5001,1008)] (some ({ vV.2 with aE:=(bZ.mk (aM.mk (List.set o0.aE.bL.eG (Int.toNat x1.gA) v30) o0.aE.bL.dh vV.2.aE.bL.ez) o0.aE.dt vV.2.aE.jm),ca:=({ vV.2.ca with aY:=o0.ca.aY }:ew) }:aJ)))<|If (x1.cZ==27) (rX [(5000,9003),(5001,9005)] (some ({ o0 with sa:=x1.gA }:aJ)))<|If (x1.cZ==28) (Bi (cl 118 [(5000,1009)] (eB o0)) λCJ=>If (CJ.1==0) (rX [(5000,9003),(5001,1009)] (some ({ CJ.2 with aE:=(bZ.mk ({ o0.aE.bL with ez:=CJ.2.aE.bL.ez }:aM) o0.aE.dt CJ.2.aE.jm),ca:=({ CJ.2.ca with aY:=o0.ca.aY }:ew),sa:=x1.gA }:aJ)))<|rX [(5000,9003),(5001,1009)] (some ({ CJ.2 with aE:=(bZ.mk ({ o0.aE.bL with ez:=CJ.2.aE.bL.ez }:aM) o0.aE.dt CJ.2.aE.jm),ca:=({ CJ.2.ca with aY:=o0.ca.aY }:ew) }:aJ)))<|If (x1.cZ==29) (rX [(5000,9003),(5001,9005)] (some ({ o0 with aE:=({ o0.aE with jm:=(if 200<(IntKind.wrap .i64 (o0.aE.jm+1))then 200 else(IntKind.wrap .i64 (o0.aE.jm+1))) }:bZ),mm:=(o0.aE.jm==200) }:aJ)))<|jn (mV x1 o0) 29 [9000,9001,9002,9003,9004,9005] [0,3,10] [3,9000,9001,9002,9003,9004,9005] (λs t=>(147,.bool s)::t) i2<|If (x1.cZ==30) (nX [] [] (mV x1 o0 (x1.cZ==30)))<|nX [] [] (mV x1 o0 (x1.cZ==31))
def px(x1:aC)(o0:aJ):Option aJ :=dX 20 5 3<|If (x1.cZ==1) (Bi (cl 30 [(5000,1001)] (eV x1.gN o0)) λv2=>rX [(5000,9003),(5001,1001)] (some ({ v2 with aE:=(bZ.mk ({ o0.aE.bL with ez:=v2.aE.bL.ez }:aM) o0.aE.dt v2.aE.jm),ca:=({ v2.ca with aY:=o0.ca.aY }:ew) }:aJ)))<|If (x1.cZ==2) (Bi (idx o0.aE.bL.eG x1.gA) λv4=>Bi (cl 44 [(5000,1002)] (eV v4 o0)) λv6=>rX [(5000,9003),(5001,1002)] (some ({ v6 with aE:=(bZ.mk ({ o0.aE.bL with ez:=v6.aE.bL.ez }:aM) o0.aE.dt v6.aE.jm),ca:=({ v6.ca with aY:=o0.ca.aY }:ew) }:aJ)))<|If (x1.cZ==3) (Bi (idx o0.ca.cE x1.gA) λv8=>Bi (cl 57 [(5000,1003)] (eV v8 o0)) λv10=>rX [(5000,9003),(5001,1003)] (some ({ v10 with aE:=(bZ.mk ({ o0.aE.bL with ez:=v10.aE.bL.ez }:aM) o0.aE.dt v10.aE.jm),ca:=({ v10.ca with aY:=o0.ca.aY }:ew) }:aJ)))<|If (x1.cZ==4) (Bi (idx o0.ca.aY x1.gA) λv12=>Bi (BG v12) λll=>Bi (cl 71 [(5000,1004)] (eV ll o0)) λmA=>rX [(5000,9003),(5001,1004)] (some ({ mA with aE:=(bZ.mk ({ o0.aE.bL with ez:=mA.aE.bL.ez }:aM) o0.aE.dt mA.aE.jm),ca:=({ mA.ca with aY:=o0.ca.aY }:ew) }:aJ)))<|If (x1.cZ==5) (Bi (cl 80 [(5000,1005)] (eV o0.ca.Dt o0)) λlI=>rX [(5000,9003),(5001,1005)] (some ({ lI with aE:=(bZ.mk ({ o0.aE.bL with ez:=lI.aE.bL.ez }:aM) o0.aE.dt lI.aE.jm),ca:=({ lI.ca with aY:=o0.ca.aY }:ew) }:aJ)))<|jn (mW x1 o0) 15 [9000,9001,9002,9003,9004,9005] [0,3,10] [3,9000,9001,9002,9003,9004,9005] (λs t=>(81,.bool s)::t) i2<|If (x1.cZ==9) (nX [] [] (mW x1 o0 (x1.cZ==9)))<|nX [] [] (mW x1 o0 (x1.cZ==10))
instance Qx{x1 o0}:MA (px x1 o0) prog 267 (λ_=>8) λr=>⟨[.ref 9000 0,.agg (CU x1)],[(9000,some (.bJ 425 (aJ.b0 o0 (.row 9001) (.row 9002) (.row 9003) (.row 9004) (.row 9005)))),(9001,some (.R 2 1 (DV.int .i64) o0.aE.bL.eG)),(9002,some (.R 199 1 iU o0.aE.bL.dh)),(9003,some (.R 343 8 mB o0.aE.dt)),(9004,some (.R 4 1 DV.bool o0.ca.aY)),(9005,some (.R 2 1 (DV.int .i64) o0.cG))],.gh [],[(9000,some (.bJ 425 (aJ.b0 r (.row 9001) (.row 9002) (.row 5000) (.row 9004) (.row 5001)))),(9001,some (.R 2 1 (DV.int .i64) r.aE.bL.eG)),(9002,some (.R 199 1 iU r.aE.bL.dh)),(9004,some (.R 4 1 DV.bool r.ca.aY)),(5000,some (.R 343 8 mB r.aE.dt)),(5001,some (.R 2 1 (DV.int .i64) r.cG)),(9003,none),(9005,none)],[5000,5001]⟩:=.e func267 ntmps267
@[reducible] def nT(a1:Int)(Ed:(List Int)×(List aQ)×(List cy)×(List cw)×Int×(List aC)×(List Int)×Int×(List Bool)×Int×(List Int)×(List Int)×Int×Int×Int×Bool):Option (xy (Int×(List Int)×(List aQ)×(List cy)×(List cw)×Int×(List aC)×(List Int)×Int×(List Bool)×Int×(List Int)×(List Int)×Int×Int×Int×Bool) (((List Int)×(List aQ)×(List cy)×(List cw)×Int×(List aC)×(List Int)×Int×(List Bool)×Int×(List Int)×(List Int)×Int×Int×Int×Bool)⊕aJ)) :=If Ed.2.2.2.2.2.2.2.2.2.2.2.2.2.2.2 (eE 52 (bA 8 mB) [(cw.mk 5 0 0 0 0 0 false [])] λzK=>Ck (dK 80 (Ed.2.2.2.1.length+List.length zK))<|rX [(5000,53),(5001,1004)] (some (.done (.inr (aJ.mk (bZ.mk (aM.mk Ed.1 Ed.2.1 (aQ.mk Ed.2.2.1)) (Ed.2.2.2.1++zK) Ed.2.2.2.2.1) Ed.2.2.2.2.2.1 (ew.mk Ed.2.2.2.2.2.2.1 Ed.2.2.2.2.2.2.2.1 Ed.2.2.2.2.2.2.2.2.1 Ed.2.2.2.2.2.2.2.2.2.1 Ed.2.2.2.2.2.2.2.2.2.2.1) Ed.2.2.2.2.2.2.2.2.2.2.2.1 Ed.2.2.2.2.2.2.2.2.2.2.2.2.1 Ed.2.2.2.2.2.2.2.2.2.2.2.2.2.1 Ed.2.2.2.2.2.2.2.2.2.2.2.2.2.2.1 Ed.2.2.2.2.2.2.2.2.2.2.2.2.2.2.2)))))<|nX [] [(1001,1003),(1002,1004)] (some (.next ((IntKind.wrap .i64 (a1+1)),Ed.1,Ed.2.1,Ed.2.2.1,Ed.2.2.2.1,Ed.2.2.2.2.1,Ed.2.2.2.2.2.1,Ed.2.2.2.2.2.2.1,Ed.2.2.2.2.2.2.2.1,Ed.2.2.2.2.2.2.2.2.1,Ed.2.2.2.2.2.2.2.2.2.1,Ed.2.2.2.2.2.2.2.2.2.2.1,Ed.2.2.2.2.2.2.2.2.2.2.2.1,Ed.2.2.2.2.2.2.2.2.2.2.2.2.1,Ed.2.2.2.2.2.2.2.2.2.2.2.2.2.1,Ed.2.2.2.2.2.2.2.2.2.2.2.2.2.2.1,Ed.2.2.2.2.2.2.2.2.2.2.2.2.2.2.2)))
def qR(o0:aJ):Option aJ :=wL (E:=((List Int)×(List aQ)×(List cy)×(List cw)×Int×(List aC)×(List Int)×Int×(List Bool)×Int×(List Int)×(List Int)×Int×Int×Int×Bool)⊕aJ) (0,o0.aE.bL.eG,o0.aE.bL.dh,o0.aE.bL.ez.ba,o0.aE.dt,o0.aE.jm,o0.cM,o0.ca.cE,o0.ca.Dt,o0.ca.aY,o0.ca.ez,o0.ca.xp,o0.cG,o0.sa,o0.ml,o0.dE,o0.mm) [9000,9001,9002,9003,9004,9005] [0] [] (λs t=>(2,.I s.1)::t) (λs t=>(1001,some (.R 343 8 mB s.2.2.2.2.1))::(1002,some (.R 2 1 (DV.int .i64) s.2.2.2.2.2.2.2.2.2.2.2.2.1))::(9000,some (.bJ 425 (aJ.b0 (aJ.mk (bZ.mk (aM.mk [] [] (aQ.mk s.2.2.2.1)) [] s.2.2.2.2.2.1) s.2.2.2.2.2.2.1 (ew.mk s.2.2.2.2.2.2.2.1 s.2.2.2.2.2.2.2.2.1 [] s.2.2.2.2.2.2.2.2.2.2.1 s.2.2.2.2.2.2.2.2.2.2.2.1) [] s.2.2.2.2.2.2.2.2.2.2.2.2.2.1 s.2.2.2.2.2.2.2.2.2.2.2.2.2.2.1 s.2.2.2.2.2.2.2.2.2.2.2.2.2.2.2.1 s.2.2.2.2.2.2.2.2.2.2.2.2.2.2.2.2) (.row 9001) (.row 9002) (.row 1001) (.row 9004) (.row 1002))))::(9001,some (.R 2 1 (DV.int .i64) s.2.1))::(9002,some (.R 199 1 iU s.2.2.1))::(9004,some (.R 4 1 DV.bool s.2.2.2.2.2.2.2.2.2.1))::t) [] [(1001,9003),(1002,9005)] (λrz=>If (decide (rz.2.2.2.2.2.2.2.2.2.2.2.2.2.1<(rz.2.2.2.2.2.2.1.length:Int))) (jn (nT rz.1) 3 [9000,9001,9002,9003,9004,9005] [0,2] [] i2 (λs t=>(1003,some (.R 343 8 mB s.2.2.2.1))::(1004,some (.R 2 1 (DV.int .i64) s.2.2.2.2.2.2.2.2.2.2.2.1))::(9000,some (.bJ 425 (aJ.b0 (aJ.mk (bZ.mk (aM.mk [] [] (aQ.mk s.2.2.1)) [] s.2.2.2.2.1) s.2.2.2.2.2.1 (ew.mk s.2.2.2.2.2.2.1 s.2.2.2.2.2.2.2.1 [] s.2.2.2.2.2.2.2.2.2.1 s.2.2.2.2.2.2.2.2.2.2.1) [] s.2.2.2.2.2.2.2.2.2.2.2.2.1 s.2.2.2.2.2.2.2.2.2.2.2.2.2.1 s.2.2.2.2.2.2.2.2.2.2.2.2.2.2.1 s.2.2.2.2.2.2.2.2.2.2.2.2.2.2.2) (.row 9001) (.row 9002) (.row 1003) (.row 9004) (.row 1004))))::(9001,some (.R 2 1 (DV.int .i64) s.1))::(9002,some (.R 199 1 iU s.2.1))::(9004,some (.R 4 1 DV.bool s.2.2.2.2.2.2.2.2.1))::t)<|If (rz.1==1048576) (nX [] [(1003,1001),(1004,1002)] (nT rz.1 (rz.2.1,rz.2.2.1,rz.2.2.2.1,rz.2.2.2.2.1,rz.2.2.2.2.2.1,rz.2.2.2.2.2.2.1,rz.2.2.2.2.2.2.2.1,rz.2.2.2.2.2.2.2.2.1,rz.2.2.2.2.2.2.2.2.2.1,rz.2.2.2.2.2.2.2.2.2.2.1,rz.2.2.2.2.2.2.2.2.2.2.2.1,rz.2.2.2.2.2.2.2.2.2.2.2.2.1,rz.2.2.2.2.2.2.2.2.2.2.2.2.2.1,rz.2.2.2.2.2.2.2.2.2.2.2.2.2.2.1,rz.2.2.2.2.2.2.2.2.2.2.2.2.2.2.2.1,true)))<|Bi (idx rz.2.2.2.2.2.2.1 rz.2.2.2.2.2.2.2.2.2.2.2.2.2.1) λAY=>Bi (cl 40 [(9003,1001),(9005,1002),(5000,1005),(5001,1006)] (px AY (aJ.mk (bZ.mk (aM.mk rz.2.1 rz.2.2.1 (aQ.mk rz.2.2.2.1)) rz.2.2.2.2.1 rz.2.2.2.2.2.1) rz.2.2.2.2.2.2.1 (ew.mk rz.2.2.2.2.2.2.2.1 rz.2.2.2.2.2.2.2.2.1 rz.2.2.2.2.2.2.2.2.2.1 rz.2.2.2.2.2.2.2.2.2.2.1 rz.2.2.2.2.2.2.2.2.2.2.2.1) rz.2.2.2.2.2.2.2.2.2.2.2.2.1 (IntKind.wrap .i64 (rz.2.2.2.2.2.2.2.2.2.2.2.2.2.1+1)) rz.2.2.2.2.2.2.2.2.2.2.2.2.2.2.1 rz.2.2.2.2.2.2.2.2.2.2.2.2.2.2.2.1 rz.2.2.2.2.2.2.2.2.2.2.2.2.2.2.2.2))) λFE=>nX [] [(1003,1005),(1004,1006)] (nT rz.1 (FE.aE.bL.eG,FE.aE.bL.dh,FE.aE.bL.ez.ba,FE.aE.dt,FE.aE.jm,FE.cM,FE.ca.cE,FE.ca.Dt,FE.ca.aY,FE.ca.ez,FE.ca.xp,FE.cG,FE.sa,FE.ml,FE.dE,FE.mm)))<|some (.done (.inl (rz.2.1,rz.2.2.1,rz.2.2.2.1,rz.2.2.2.2.1,rz.2.2.2.2.2.1,rz.2.2.2.2.2.2.1,rz.2.2.2.2.2.2.2.1,rz.2.2.2.2.2.2.2.2.1,rz.2.2.2.2.2.2.2.2.2.1,rz.2.2.2.2.2.2.2.2.2.2.1,rz.2.2.2.2.2.2.2.2.2.2.2.1,rz.2.2.2.2.2.2.2.2.2.2.2.2.1,rz.2.2.2.2.2.2.2.2.2.2.2.2.2.1,rz.2.2.2.2.2.2.2.2.2.2.2.2.2.2.1,rz.2.2.2.2.2.2.2.2.2.2.2.2.2.2.2.1,rz.2.2.2.2.2.2.2.2.2.2.2.2.2.2.2.2)))) fun
  |.inl e42=>rX [(5000,1001),(5001,1002)] (some (aJ.mk (bZ.mk (aM.mk e42.1 e42.2.1 (aQ.mk e42.2.2.1)) e42.2.2.2.1 e42.2.2.2.2.1) e42.2.2.2.2.2.1 (ew.mk e42.2.2.2.2.2.2.1 e42.2.2.2.2.2.2.2.1 e42.2.2.2.2.2.2.2.2.1 e42.2.2.2.2.2.2.2.2.2.1 e42.2.2.2.2.2.2.2.2.2.2.1) e42.2.2.2.2.2.2.2.2.2.2.2.1 e42.2.2.2.2.2.2.2.2.2.2.2.2.1 e42.2.2.2.2.2.2.2.2.2.2.2.2.2.1 e42.2.2.2.2.2.2.2.2.2.2.2.2.2.2.1 e42.2.2.2.2.2.2.2.2.2.2.2.2.2.2.2))
  |.inr r=>some r
instance Sb{o0}:MA (qR o0) prog 208 (λ_=>8) λr=>⟨[.ref 9000 0],[(9000,some (.bJ 425 (aJ.b0 o0 (.row 9001) (.row 9002) (.row 9003) (.row 9004) (.row 9005)))),(9001,some (.R 2 1 (DV.int .i64) o0.aE.bL.eG)),(9002,some (.R 199 1 iU o0.aE.bL.dh)),(9003,some (.R 343 8 mB o0.aE.dt)),(9004,some (.R 4 1 DV.bool o0.ca.aY)),(9005,some (.R 2 1 (DV.int .i64) o0.cG))],.gh [],[(9000,some (.bJ 425 (aJ.b0 r (.row 9001) (.row 9002) (.row 5000) (.row 9004) (.row 5001)))),(9001,some (.R 2 1 (DV.int .i64) r.aE.bL.eG)),(9002,some (.R 199 1 iU r.aE.bL.dh)),(9004,some (.R 4 1 DV.bool r.ca.aY)),(5000,some (.R 343 8 mB r.aE.dt)),(5001,some (.R 2 1 (DV.int .i64) r.cG)),(9003,none),(9005,none)],[5000,5001]⟩:=.e func208 ntmps208
def BI(x0:cL)(x1:aM)(LW:List Int)(Qe:Int)(Qf:Int)(Qg:List Int)(o0:List Bool):Option (bZ×Int×(List Bool)) :=Bi (zC x0) λv2=>If (v2 != 0) (rX [] (some ((bZ.mk (aM.mk [] [] (aQ.mk [])) [] 0),v2,o0)))<|If ((LW.length:Int) != x0.dY) (rX [] (some ((bZ.mk (aM.mk [] [] (aQ.mk [])) [] 0),1,o0)))<|fO (E:=bZ×Int×(List Bool)) () 28 [9000] [3,4,5,6,26,27] [3,4,5,6,9000] i2 i2 [] [] m64 (x0.ri.length:Int) (λk3 _=>Bi (idx x0.ri (k3:Int)) λmA=>Bi (cl 35 [] (wY mA x1 LW Qe Qf Qg o0)) λlI=>If (!lI) (rX [] (some (.done ((bZ.mk (aM.mk [] [] (aQ.mk [])) [] 0),1,o0))))<|nX [] [] (some (.next ()))) fun
  |.next _=>wk [.c 43 2000 0 2 1,.c 43 2001 1 199 1,.c 43 2002 3 343 8,.c 43 2003 11 2 1]<|Bi (cl 47 [(5000,47)] (jx Qg)) λv6=>Bi (cl 56 [(9000,47)] (nM v6)) λv8=>Bi (cl 60 [(5000,60)] (hD x1.eG)) λv10=>Bi (cl 63 [(5000,63)] (eU x1.dh)) λv12=>wk [.z 47]<|Bi (cl 71 [(9000,43),(9001,60),(9002,63),(9003,2002),(9004,9000),(9005,2003),(5000,1001),(5001,1002)] (qR (aJ.mk (bZ.mk (aM.mk v10 v12 x1.ez) ([]:List cw) 0) x0.ri (ew.mk LW Qe o0 Qf v8) ([]:List Int) 0 0 0 false))) λll=>wk [.z 60,.z 63,.z 1001]<|rX [] (some (ll.aE,0,ll.ca.aY))
  |.done r=>some r
instance ahP{x0 x1 LW Qe Qf Qg o0}:MA (BI x0 x1 LW Qe Qf Qg o0) prog 145 (λ_=>1) λr=>⟨[.agg (EM x0),.agg (NP x1),.agg [.L 1 (DV.int .i64) LW,.I Qe,.row 9000,.I Qf,.L 1 (DV.int .i64) Qg]],[(9000,some (.R 4 1 DV.bool o0))],.gh [.agg (bZ.cs r.1),.I r.2.1],[(9000,some (.R 4 1 DV.bool r.2.2))],[]⟩:=.b func145 ntmps145
def Fi(x0:List cw):Option Int :=fL 0 8 [] [6,7] [] (λs t=>(3,.I s)::t) i2 [] [] m64 (x0.length:Int) (λk1 s3=>Bi (idx x0 (k1:Int)) λv5=>If ((v5.bC==3)||(v5.bC==4)) (nX [] [] (some (IntKind.wrap .i64 (s3+1))))<|nX [] [] (some s3)) λs3=>some s3
instance ahQ{x0}:MC (Fi x0) λr=>br prog 147 [.L 8 mB x0] (.I r):=.p func147 ntmps147
def nD(x1:Int)(x2:Int)(o0:ak):Option ak :=Bi (gy x1) λv2=>If ((!v2)||(decide (x2<=0))) (rX [] (some o0))<|Bi (cl 22 [] (kJ x1 x2 o0)) λv4=>fL o0.bq 24 [9000,9001,9002] [0,1,2,22,23] [9000,9001] i2 (λs t=>(9002,some (.mp (nU cU DV.bool s)))::t) [] [] m64 (v4.length:Int) (λk5 s7=>Bi (idx v4 (k5:Int)) λv12=>eE 0 mb v12 λ_=>eE 1 DV.bool true λ_=>nX [] [] (some (Fb cU s7 v12 true))) λs7=>Ck (oO 8 x1)<|ea 38 (λx=>[(DV.int .i64) x]) o0.dE<|Ck (oO 8 x1)<|ea 45 (λx=>[(DV.int .i64) x]) o0.dE<|Ck (oO 8 x1)<|ea 52 (λx=>[(DV.int .i64) x]) o0.dE<|eb 52 (IntKind.wrap .i64 ((o0.dE (Int.toNat x1))+(if (IntKind.wrap .i64 (9223372036854775807-(o0.dE (Int.toNat x1))))<x2 then(IntKind.wrap .i64 (9223372036854775807-(o0.dE (Int.toNat x1))))else x2)))<|rX [] (some ({ o0 with dE:=(tP o0.dE (Int.toNat x1) (IntKind.wrap .i64 ((o0.dE (Int.toNat x1))+(if (IntKind.wrap .i64 (9223372036854775807-(o0.dE (Int.toNat x1))))<x2 then(IntKind.wrap .i64 (9223372036854775807-(o0.dE (Int.toNat x1))))else x2)))),bq:=s7 }:ak))
instance IC{x1 x2 o0}:MA (nD x1 x2 o0) prog 146 (λ_=>3) λr=>⟨[.ref 9000 0,.I x1,.I x2],[(9000,some (.bJ 299 (ak.b0 o0 (.row 9001) (.row 9002)))),(9001,some (.R 181 4 du o0.dB)),(9002,some (.mp (nU cU DV.bool o0.bq)))],.gh [],[(9000,some (.bJ 299 (ak.b0 r (.row 9001) (.row 9002)))),(9001,some (.R 181 4 du r.dB)),(9002,some (.mp (nU cU DV.bool r.bq)))],[]⟩:=.e func146 ntmps146
@[reducible] def kK(x1:Int)(x2:Int)(o0:ak)(QL:(List cm)×(Nat->(Nat->Int))×(Nat->Int)×(Nat->Int)×(List au)×(List aZ)×(List (aI×Bool))):Option (Int×(List cm)×ak) :=rX [] (some ((o0.dq (Int.toNat x1) (Int.toNat x2)),QL.1,(ak.mk (bW.mk QL.2.2.2.2.1) QL.2.2.2.2.2.1 QL.2.1 QL.2.2.1 QL.2.2.2.1 QL.2.2.2.2.2.2)))
@[reducible] def kL(x1:Int)(x2:Int)(x3:Int)(x4:List Int)(o0:ak)(s40:Int×(Nat->(Nat->Int))×(Nat->Int)×(Nat->Int)×(List au)×(List aZ)×(List (aI×Bool))):Option (Int×(List cm)×ak) :=Bi (jC (cm.mk s40.1 x3 x4)) λuj=>eE 96 (bA 3 xC) [uj] λv24=>Ck (dK 40 (v24.length))<|jn (kK x1 x2 o0) 15 [9000,9001,9002] [14] [] (λs t=>(15,.L 3 xC s.1)::t) (λs t=>(9000,some (.bJ 299 (ak.b0 (ak.mk (bW.mk s.2.2.2.2.1) [] s.2.1 s.2.2.1 s.2.2.2.1 []) (.row 9001) (.row 9002))))::(9001,some (.R 181 4 du s.2.2.2.2.2.1))::(9002,some (.mp (nU cU DV.bool s.2.2.2.2.2.2)))::t)<|Bi (cl 103 [] (fV 7 x1 x2 (o0.dq (Int.toNat x1) (Int.toNat x2)) (ak.mk (bW.mk s40.2.2.2.2.1) s40.2.2.2.2.2.1 s40.2.1 s40.2.2.1 s40.2.2.2.1 s40.2.2.2.2.2.2))) λzK=>If zK.2.1 (Bi (jC (cm.mk (IntKind.wrap .i64 (s40.1+zK.1.gD)) x3 x4)) λv37=>eE 116 (bA 3 xC) [v37] λHG=>Ck (dK 40 (v24.length+List.length HG))<|nX [.z 117] [] (kK x1 x2 o0 ((v24++HG),zK.2.2.dq,zK.2.2.eL,zK.2.2.dE,zK.2.2.fX.ba,zK.2.2.dB,zK.2.2.bq)))<|nX [.z 97] [] (kK x1 x2 o0 (v24,zK.2.2.dq,zK.2.2.eL,zK.2.2.dE,zK.2.2.fX.ba,zK.2.2.dB,zK.2.2.bq))
def qG(x1:Int)(x2:Int)(x3:Int)(x4:List Int)(x5:Int)(x6:Int)(o0:ak):Option (Int×(List cm)×ak) :=Bi (gy x1) λv2=>Bi (gb (!(!v2)) (false) (gy x2)) λv4=>If ((!v2)||(!v4)) (rX [] (some ((-1),([]:List cm),o0)))<|Ck (oO 8 x1)<|Ck (oO 8 x2)<|ea 41 GN o0.dq<|eb 41 (λx=>[(DV.int .i64) x])<|Ck (oO 8 x1)<|Ck (oO 8 x2)<|ea 49 GN o0.dq<|eb 49 (λx=>[(DV.int .i64) x])<|Ck (oO 8 x1)<|Ck (oO 8 x2)<|ea 55 GN o0.dq<|eb 55 (λx=>[(DV.int .i64) x])<|eb 55 (IntKind.wrap .i64 ((o0.dq (Int.toNat x1) (Int.toNat x2))+1))<|Bi (cl 61 [] (mQ (bw.mk x1 x2 (o0.dq (Int.toNat x1) (Int.toNat x2))) ({ o0 with dq:=(tP o0.dq (Int.toNat x1) (tP (o0.dq (Int.toNat x1)) (Int.toNat x2) (IntKind.wrap .i64 ((o0.dq (Int.toNat x1) (Int.toNat x2))+1)))) }:ak))) λv12=>If v12 (rX [] (some ((o0.dq (Int.toNat x1) (Int.toNat x2)),([]:List cm),({ o0 with dq:=(tP o0.dq (Int.toNat x1) (tP (o0.dq (Int.toNat x1)) (Int.toNat x2) (IntKind.wrap .i64 ((o0.dq (Int.toNat x1) (Int.toNat x2))+1)))) }:ak))))<|Bi (cl 68 [] (fV 5 x1 x2 (o0.dq (Int.toNat x1) (Int.toNat x2)) ({ o0 with dq:=(tP o0.dq (Int.toNat x1) (tP (o0.dq (Int.toNat x1)) (Int.toNat x2) (IntKind.wrap .i64 ((o0.dq (Int.toNat x1) (Int.toNat x2))+1)))) }:ak))) λll=>If ll.2.1 (rX [] (some ((o0.dq (Int.toNat x1) (Int.toNat x2)),([]:List cm),ll.2.2)))<|jn (kL x1 x2 x3 x4 o0) 11 [9000,9001,9002] [0,1,2,3,4,14,15] [] (λs t=>(18,.I s.1)::t) (λs t=>(9000,some (.bJ 299 (ak.b0 (ak.mk (bW.mk s.2.2.2.2.1) [] s.2.1 s.2.2.1 s.2.2.2.1 []) (.row 9001) (.row 9002))))::(9001,some (.R 181 4 du s.2.2.2.2.2.1))::(9002,some (.mp (nU cU DV.bool s.2.2.2.2.2.2)))::t)<|Bi (cl 82 [] (fV 6 x1 x2 (o0.dq (Int.toNat x1) (Int.toNat x2)) ll.2.2)) λGG=>If GG.2.1 (nX [] [] (kL x1 x2 x3 x4 o0 ((IntKind.wrap .i64 ((IntKind.wrap .i64 (x5+(if 1>x6 then 1 else x6)))+GG.1.gD)),GG.2.2.dq,GG.2.2.eL,GG.2.2.dE,GG.2.2.fX.ba,GG.2.2.dB,GG.2.2.bq)))<|nX [] [] (kL x1 x2 x3 x4 o0 ((IntKind.wrap .i64 (x5+(if 1>x6 then 1 else x6))),GG.2.2.dq,GG.2.2.eL,GG.2.2.dE,GG.2.2.fX.ba,GG.2.2.dB,GG.2.2.bq))
instance Lx{x1 x2 x3 x4 x5 x6 o0}:MA (qG x1 x2 x3 x4 x5 x6 o0) prog 209 (λ_=>3) λr=>⟨[.ref 9000 0,.I x1,.I x2,.I x3,.L 1 (DV.int .i64) x4,.I x5,.I x6],[(9000,some (.bJ 299 (ak.b0 o0 (.row 9001) (.row 9002)))),(9001,some (.R 181 4 du o0.dB)),(9002,some (.mp (nU cU DV.bool o0.bq)))],.gh [.I r.1,.L 3 xC r.2.1],[(9000,some (.bJ 299 (ak.b0 r.2.2 (.row 9001) (.row 9002)))),(9001,some (.R 181 4 du r.2.2.dB)),(9002,some (.mp (nU cU DV.bool r.2.2.bq)))],[]⟩:=.b func209 ntmps209
@[reducible] def nC(x1:Int)(o0:ak)(pD:Int×(Nat->(Nat->Int))×(Nat->Int)×(Nat->Int)×(List au)×(List aZ)×(List (aI×Bool))):Option (Int×Int×ak) :=rX [] (some ((o0.eL (Int.toNat x1)),pD.1,(ak.mk (bW.mk pD.2.2.2.2.1) pD.2.2.2.2.2.1 pD.2.1 pD.2.2.1 pD.2.2.2.1 pD.2.2.2.2.2.2)))
def pS(x1:Int)(x2:Int)(o0:ak):Option (Int×Int×ak) :=Bi (gy x1) λv2=>If (!v2) (rX [] (some ((-1),x2,o0)))<|Ck (oO 8 x1)<|ea 22 (λx=>[(DV.int .i64) x]) o0.eL<|Ck (oO 8 x1)<|ea 28 (λx=>[(DV.int .i64) x]) o0.eL<|Ck (oO 8 x1)<|ea 33 (λx=>[(DV.int .i64) x]) o0.eL<|eb 33 (IntKind.wrap .i64 ((o0.eL (Int.toNat x1))+1))<|jn (nC x1 o0) 5 [9000,9001,9002] [6] [] (λs t=>(2,.I s.1)::t) (λs t=>(9000,some (.bJ 299 (ak.b0 (ak.mk (bW.mk s.2.2.2.2.1) [] s.2.1 s.2.2.1 s.2.2.2.1 []) (.row 9001) (.row 9002))))::(9001,some (.R 181 4 du s.2.2.2.2.2.1))::(9002,some (.mp (nU cU DV.bool s.2.2.2.2.2.2)))::t)<|Bi (cl 38 [] (fV 9 x1 0 (o0.eL (Int.toNat x1)) ({ o0 with eL:=(tP o0.eL (Int.toNat x1) (IntKind.wrap .i64 ((o0.eL (Int.toNat x1))+1))) }:ak))) λlL=>If lL.2.1 (nX [] [] (nC x1 o0 ((IntKind.wrap .i64 (x2+lL.1.gD)),lL.2.2.dq,lL.2.2.eL,lL.2.2.dE,lL.2.2.fX.ba,lL.2.2.dB,lL.2.2.bq)))<|nX [] [] (nC x1 o0 (x2,lL.2.2.dq,lL.2.2.eL,lL.2.2.dE,lL.2.2.fX.ba,lL.2.2.dB,lL.2.2.bq))
instance KU{x1 x2 o0}:MA (pS x1 x2 o0) prog 211 (λ_=>3) λr=>⟨[.ref 9000 0,.I x1,.I x2],[(9000,some (.bJ 299 (ak.b0 o0 (.row 9001) (.row 9002)))),(9001,some (.R 181 4 du o0.dB)),(9002,some (.mp (nU cU DV.bool o0.bq)))],.gh [.I r.1,.I r.2.1],[(9000,some (.bJ 299 (ak.b0 r.2.2 (.row 9001) (.row 9002)))),(9001,some (.R 181 4 du r.2.2.dB)),(9002,some (.mp (nU cU DV.bool r.2.2.bq)))],[]⟩:=.b func211 ntmps211
@[reducible] def iz(CK:dJ×(List au)×(List bX)×Int×(List aM)×(List Bool)×(List Int)×(List aP)×(List AEv)×(Nat->(Nat->Int))×(Nat->Int)×(Nat->Int)×(List au)×(List aZ)×(List (aI×Bool))×(List aD)):Option (Bool×az×ak×aU) :=rX [(5000,1001),(5001,1002)] (some (false,(az.mk CK.1 CK.2.1 CK.2.2.1 () () CK.2.2.2.1 (aP.mk CK.2.2.2.2.1 CK.2.2.2.2.2.1 CK.2.2.2.2.2.2.1) CK.2.2.2.2.2.2.2.1 CK.2.2.2.2.2.2.2.2.1),(ak.mk (bW.mk CK.2.2.2.2.2.2.2.2.2.2.2.2.1) CK.2.2.2.2.2.2.2.2.2.2.2.2.2.1 CK.2.2.2.2.2.2.2.2.2.1 CK.2.2.2.2.2.2.2.2.2.2.1 CK.2.2.2.2.2.2.2.2.2.2.2.1 CK.2.2.2.2.2.2.2.2.2.2.2.2.2.2.1),(aU.mk CK.2.2.2.2.2.2.2.2.2.2.2.2.2.2.2)))
@[reducible] def lU(x1:Int)(x4:cw)(o0:az)(o2:ak)(o5:aU)(LY:Int):Option (Bool×az×ak×aU) :=Bi (cl 111 [(9000,9002),(9001,9003),(9002,9004)] (pS x1 LY o2)) λKM=>Bi (cl 123 [(5000,1007)] (fG (AEv.mk 0 x1 9 0 KM.1 0 x4.bU LY x4.cE) o0 KM.2.2 o5)) λzK=>Bi (cl 133 [(9011,1007),(5000,1008)] (kr KM.2.1 (cS.mk 6 x1 0 KM.1 0 x4.bU x4.cE) zK KM.2.2 o5)) λv37=>nX [] [(1001,1007),(1002,1008)] (iz (zK.EC,zK.ld,zK.sd,zK.qP,zK.bn.dL,zK.bn.aY,zK.bn.bf,zK.eh,zK.cr,KM.2.2.dq,KM.2.2.eL,KM.2.2.dE,KM.2.2.fX.ba,KM.2.2.dB,KM.2.2.bq,v37.ba))
@[reducible] def lP(x1:Int)(x3:Int)(o0:az)(o2:ak)(o5:aU)(a41:Int)(a42:Int)(Lc:(List Int)):Option (Bool×az×ak×aU) :=wk [.z 1011]<|Bi (cl 167 [(5000,1012)] (fG (AEv.mk 0 x1 10 a41 x3 a42 0 0 Lc) o0 o2 o5)) λYF=>rX [(5000,1012),(5001,9006)] (some (true,YF,o2,o5))
@[reducible] def lQ(x1:Int)(x3:Int)(x4:cw)(o0:az)(o2:ak)(o5:aU)(v40:List Int)(a41:Int)(s49:Int):Option (Bool×az×ak×aU) :=jn (lP x1 x3 o0 o2 o5 a41 s49) 25 [9000,9001,9002,9003,9004,9005,9006,9007,9008,9009,9010,9011] [0,19] [9000,9001,9002,9003,9004,9005,9006,9007,9008,9009,9010,9011] i2 (λs t=>(19,some (.bJ 45 [.I 0,.I x1,.int .u8 10,.I a41,.I x3,.I s49,.I 0,.I 0,.row 1011]))::(1011,some (.R 2 1 (DV.int .i64) s))::t)<|If ((x4.bC==3)||(!x4.Pe)) (eE 162 (bA 1 (DV.int .i64)) [x4.Vi] λxA=>Ck (dK 8 (v40.length+List.length xA))<|nX [] [(1011,163)] (lP x1 x3 o0 o2 o5 a41 s49 (v40++xA)))<|nX [] [(1011,1010)] (lP x1 x3 o0 o2 o5 a41 s49 v40)
@[reducible] def lR(x1:Int)(x3:Int)(x4:cw)(o0:az)(o2:ak)(o5:aU)(v40:List Int)(s50:Int):Option (Bool×az×ak×aU) :=jn (lQ x1 x3 x4 o0 o2 o5 v40 s50) 23 [9000,9001,9002,9003,9004,9005,9006,9007,9008,9009,9010,9011] [0,9,19] [9,9000,9001,9002,9003,9004,9005,9006,9007,9008,9009,9010,9011] i2 (λs t=>(19,some (.bJ 45 [.I 0,.I x1,.int .u8 10,.I s50,.I x3,.I s,.I 0,.I 0,.row 1010]))::(1010,some (.R 2 1 (DV.int .i64) v40))::t)<|If x4.Pe (nX [] [(1010,1009)] (lQ x1 x3 x4 o0 o2 o5 v40 s50 1))<|nX [] [(1010,1009)] (lQ x1 x3 x4 o0 o2 o5 v40 s50 0)
@[reducible] def lS(x1:Int)(x2:Int)(x3:Int)(x4:cw)(o0:az)(o2:ak)(o5:aU)(YC:Bool):Option (Bool×az×ak×aU) :=If YC (eE 141 (bA 1 (DV.int .i64)) [x4.cQ] λv40=>jn (lR x1 x3 x4 o0 o2 o5 v40) 21 [9000,9001,9002,9003,9004,9005,9006,9007,9008,9009,9010,9011] [0,9,19] [9,9000,9001,9002,9003,9004,9005,9006,9007,9008,9009,9010,9011] i2 (λs t=>(19,some (.bJ 45 [.I 0,.I x1,.int .u8 10,.I s,.I x3,.I 0,.I 0,.I 0,.row 1009]))::(1009,some (.R 2 1 (DV.int .i64) v40))::t)<|If (x4.bC==4) (nX [] [(1009,141)] (lR x1 x3 x4 o0 o2 o5 v40 1))<|nX [] [(1009,141)] (lR x1 x3 x4 o0 o2 o5 v40 0))<|If (x4.bC==5) (Bi (cl 174 [(5000,1013)] (fG (AEv.mk 0 x1 11 0 0 0 x2 0 []) o0 o2 o5)) λJm=>nX [] [(1001,1013),(1002,9006)] (iz (Jm.EC,Jm.ld,Jm.sd,Jm.qP,Jm.bn.dL,Jm.bn.aY,Jm.bn.bf,Jm.eh,Jm.cr,o2.dq,o2.eL,o2.dE,o2.fX.ba,o2.dB,o2.bq,o5.ba)))<|nX [] [(1001,9011),(1002,9006)] (iz (o0.EC,o0.ld,o0.sd,o0.qP,o0.bn.dL,o0.bn.aY,o0.bn.bf,o0.eh,o0.cr,o2.dq,o2.eL,o2.dE,o2.fX.ba,o2.dB,o2.bq,o5.ba))
def ov(x1:Int)(x2:Int)(x3:Int)(x4:cw)(o0:az)(o2:ak)(o5:aU):Option (Bool×az×ak×aU) :=jn iz 1 [9000,9001,9002,9003,9004,9005,9006,9007,9008,9009,9010,9011] [] [] i2 (λs t=>(1001,some (.R 45 9 AEv.dv s.2.2.2.2.2.2.2.2.1))::(1002,some (.R 320 8 dG s.2.2.2.2.2.2.2.2.2.2.2.2.2.2.2))::(9000,some (.bJ 194 (az.b0 (az.mk s.1 [] s.2.2.1 () () s.2.2.2.1 (aP.mk [] [] []) [] []) (.row 9001) (.ref 9002 0) (.ref 9005 0) (.row 9007) (.row 9008) (.row 9009) (.row 9010) (.row 1001))))::(9001,some (.R 176 7 df s.2.1))::(9002,some (.bJ 299 (ak.b0 (ak.mk (bW.mk s.2.2.2.2.2.2.2.2.2.2.2.2.1) [] s.2.2.2.2.2.2.2.2.2.1 s.2.2.2.2.2.2.2.2.2.2.1 s.2.2.2.2.2.2.2.2.2.2.2.1 []) (.row 9003) (.row 9004))))::(9003,some (.R 181 4 du s.2.2.2.2.2.2.2.2.2.2.2.2.2.1))::(9004,some (.mp (nU cU DV.bool s.2.2.2.2.2.2.2.2.2.2.2.2.2.2.1)))::(9005,some (.bJ 305 [.row 1002]))::(9007,some (.R 201 3 fk s.2.2.2.2.1))::(9008,some (.R 4 1 DV.bool s.2.2.2.2.2.1))::(9009,some (.R 3 1 (DV.int .i64) s.2.2.2.2.2.2.1))::(9010,some (.R 192 3 fD s.2.2.2.2.2.2.2.1))::t)<|If (x4.bC==1) (Bi (tL o0.EC.eX x1 x4.uJ) λxa=>Bi (cl 49 [(9000,9002),(9001,9003),(9002,9004)] (qG x1 x4.uJ x4.bU x4.cE o0.qP xa o2)) λv21=>Bi (cl 62 [(5000,1003)] (fG (AEv.mk 0 x1 8 x4.uJ v21.1 0 x4.bU 0 x4.cE) o0 v21.2.2 o5)) λuj=>fL o5.ba 65 [9000,9001,9002,9003,9004,9005,9006,9007,9008,9009,9010,9011] [0,1,9,11,63,64] [9,9001,9002,9003,9004,9007,9008,9009,9010] i2 (λs t=>(1004,some (.R 45 9 AEv.dv uj.cr))::(1005,some (.R 320 8 dG s))::(9000,some (.bJ 194 (az.b0 ({ uj with bn:=(aP.mk [] [] []) }:az) (.row 9001) (.ref 9002 0) (.ref 9005 0) (.row 9007) (.row 9008) (.row 9009) (.row 9010) (.row 1004))))::(9005,some (.bJ 305 [.row 1005]))::t) [] [(1004,1003),(1005,9006)] m64 (v21.2.1.length:Int) (λk24 s26=>Bi (idx v21.2.1 (k24:Int)) λv28=>Bi (cl 83 [(9006,1005),(9011,1004),(5000,1006)] (kr v28.Cl (cS.mk 5 x4.uJ x1 v21.1 (k24:Int) v28.bU v28.cE) uj v21.2.2 (aU.mk s26))) λv30=>nX [] [(1005,1006)] (some v30.ba)) λs26=>nX [] [(1001,1004),(1002,1005)] (iz (uj.EC,uj.ld,uj.sd,uj.qP,uj.bn.dL,uj.bn.aY,uj.bn.bf,uj.eh,uj.cr,v21.2.2.dq,v21.2.2.eL,v21.2.2.dE,v21.2.2.fX.ba,v21.2.2.dB,v21.2.2.bq,s26)))<|If (x4.bC==2) (jn (lU x1 x4 o0 o2 o5) 12 [9000,9001,9002,9003,9004,9005,9006,9007,9008,9009,9010,9011] [0,1,9] [9,9000,9001,9002,9003,9004,9005,9006,9007,9008,9009,9010,9011] (λs t=>(15,.I s)::t) i2<|If (decide ((if x4.Hl>1 then x4.Hl else 1)<(IntKind.wrap .i64 (2147483647-o0.qP)))) (nX [] [] (lU x1 x4 o0 o2 o5 (IntKind.wrap .i64 (o0.qP+(if x4.Hl>1 then x4.Hl else 1)))))<|nX [] [] (lU x1 x4 o0 o2 o5 2147483647))<|jn (lS x1 x2 x3 x4 o0 o2 o5) 18 [9000,9001,9002,9003,9004,9005,9006,9007,9008,9009,9010,9011] [0,1,2,3,9,21] [9,9000,9001,9002,9003,9004,9005,9006,9007,9008,9009,9010,9011] (λs t=>(134,.bool s)::t) i2<|If (x4.bC==3) (nX [] [] (lS x1 x2 x3 x4 o0 o2 o5 (x4.bC==3)))<|nX [] [] (lS x1 x2 x3 x4 o0 o2 o5 (x4.bC==4))
instance Ov{x1 x2 x3 x4 o0 o2 o5}:MA (ov x1 x2 x3 x4 o0 o2 o5) prog 148 (λ_=>14) λr=>⟨[.ref 9000 0,.I x1,.I x2,.I x3,.agg (abr x4)],[(9000,some (.bJ 194 (az.b0 ({ o0 with bn:=(aP.mk [] [] []) }:az) (.row 9001) (.ref 9002 0) (.ref 9005 0) (.row 9007) (.row 9008) (.row 9009) (.row 9010) (.row 9011)))),(9001,some (.R 176 7 df o0.ld)),(9002,some (.bJ 299 (ak.b0 o2 (.row 9003) (.row 9004)))),(9003,some (.R 181 4 du o2.dB)),(9004,some (.mp (nU cU DV.bool o2.bq))),(9005,some (.bJ 305 [.row 9006])),(9006,some (.R 320 8 dG o5.ba)),(9007,some (.R 201 3 fk o0.bn.dL)),(9008,some (.R 4 1 DV.bool o0.bn.aY)),(9009,some (.R 3 1 (DV.int .i64) o0.bn.bf)),(9010,some (.R 192 3 fD o0.eh)),(9011,some (.R 45 9 AEv.dv o0.cr))],.bool r.1,[(9000,some (.bJ 194 (az.b0 ({ r.2.1 with bn:=(aP.mk [] [] []) }:az) (.row 9001) (.ref 9002 0) (.ref 9005 0) (.row 9007) (.row 9008) (.row 9009) (.row 9010) (.row 5000)))),(9002,some (.bJ 299 (ak.b0 r.2.2.1 (.row 9003) (.row 9004)))),(9005,some (.bJ 305 [.row 5001])),(9001,some (.R 176 7 df r.2.1.ld)),(9003,some (.R 181 4 du r.2.2.1.dB)),(9004,some (.mp (nU cU DV.bool r.2.2.1.bq))),(9007,some (.R 201 3 fk r.2.1.bn.dL)),(9008,some (.R 4 1 DV.bool r.2.1.bn.aY)),(9009,some (.R 3 1 (DV.int .i64) r.2.1.bn.bf)),(9010,some (.R 192 3 fD r.2.1.eh)),(5000,some (.R 45 9 AEv.dv r.2.1.cr)),(5001,some (.R 320 8 dG r.2.2.2.ba)),(9006,none),(9011,none)],[5000,5001]⟩:=.b func148 ntmps148
def ox(x1:cS)(o0:az)(o2:ak)(o5:aU)(o12:Nat->Int):Option (az×ak×aU×(Nat->Int)) :=Bi (idx o0.bn.bf x1.aN) λv2=>Bi (uD o0.EC.eX x1.aN v2 x1.bU) λv4=>Ck ((!((!v4.2)||(v4.1 != (x1.cE.length:Int))))=true->oO 8 x1.bU)<|ea 72 (λx=>[(DV.int .i64) x]) o12<|If (((!v4.2)||(v4.1 != (x1.cE.length:Int)))||(decide (8<=(o12 (Int.toNat x1.bU))))) (Bi (cl 83 [(5000,1001)] (fG (AEv.mk 0 x1.aN 7 x1.lW x1.gN x1.lX x1.bU (IntKind.wrap .i64 x1.nS) x1.cE) o0 o2 o5)) λv7=>rX [(5000,1001),(5001,9006)] (some (v7,o2,o5,o12)))<|Ck (oO 8 x1.bU)<|ea 88 (λx=>[(DV.int .i64) x]) o12<|Ck (oO 8 x1.bU)<|ea 92 (λx=>[(DV.int .i64) x]) o12<|eb 92 (IntKind.wrap .i64 ((o12 (Int.toNat x1.bU))+1))<|Bi (cl 95 [(5000,1002)] (fG (AEv.mk 0 x1.aN x1.nS x1.lW x1.gN x1.lX x1.bU 0 x1.cE) o0 o2 o5)) λv11=>Bi (wG o0.EC.eX x1.aN v2 x1.bU) λkG=>Bi (cl 111 [(9000,9002),(9001,9003),(9002,9004)] (qI x1.aN 200 o2)) λlL=>Bi (idx v11.bn.dL x1.aN) λoi=>Bi (cl 138 [(9000,9008)] (BI kG.1 oi x1.cE v11.qP lL.1 lL.2 v11.bn.aY)) λxa=>If (xa.2.1 != 0) (rX [(5000,1002),(5001,9006)] (some (({ v11 with bn:=({ v11.bn with aY:=xa.2.2 }:aP) }:az),o2,o5,(tP o12 (Int.toNat x1.bU) (IntKind.wrap .i64 ((o12 (Int.toNat x1.bU))+1))))))<|eE 151 fk xa.1.bL λv20=>Bi (Fi xa.1.dt) λuQ=>Bi (cl 160 [(9000,9002),(9001,9003),(9002,9004)] (nD x1.aN uQ o2)) λv24=>fL (lL.1,v11.EC,v11.ld,v11.sd,v11.qP,(List.set v11.bn.dL (Int.toNat x1.aN) v20),xa.2.2,v11.bn.bf,v11.eh,v11.cr,v24.dq,v24.eL,v24.dE,v24.fX.ba,v24.dB,v24.bq,o5.ba) 164 [9000,9001,9002,9003,9004,9005,9006,9007,9008,9009,9010,9011,9012] [0,4,7,162,163] [4,9012] (λs t=>(14,.I s.1)::t) (λs t=>(1003,some (.R 45 9 AEv.dv s.2.2.2.2.2.2.2.2.2.1))::(1004,some (.R 320 8 dG s.2.2.2.2.2.2.2.2.2.2.2.2.2.2.2.2))::(9000,some (.bJ 194 (az.b0 (az.mk s.2.1 [] s.2.2.2.1 () () s.2.2.2.2.1 (aP.mk [] [] []) [] []) (.row 9001) (.ref 9002 0) (.ref 9005 0) (.row 9007) (.row 9008) (.row 9009) (.row 9010) (.row 1003))))::(9001,some (.R 176 7 df s.2.2.1))::(9002,some (.bJ 299 (ak.b0 (ak.mk (bW.mk s.2.2.2.2.2.2.2.2.2.2.2.2.2.1) [] s.2.2.2.2.2.2.2.2.2.2.1 s.2.2.2.2.2.2.2.2.2.2.2.1 s.2.2.2.2.2.2.2.2.2.2.2.2.1 []) (.row 9003) (.row 9004))))::(9003,some (.R 181 4 du s.2.2.2.2.2.2.2.2.2.2.2.2.2.2.1))::(9004,some (.mp (nU cU DV.bool s.2.2.2.2.2.2.2.2.2.2.2.2.2.2.2.1)))::(9005,some (.bJ 305 [.row 1004]))::(9007,some (.R 201 3 fk s.2.2.2.2.2.1))::(9008,some (.R 4 1 DV.bool s.2.2.2.2.2.2.1))::(9009,some (.R 3 1 (DV.int .i64) s.2.2.2.2.2.2.2.1))::(9010,some (.R 192 3 fD s.2.2.2.2.2.2.2.2.1))::t) [] [(1003,1002),(1004,9006)] m64 (xa.1.dt.length:Int) (λk25 Cw=>Bi (idx xa.1.dt (k25:Int)) λYF=>Bi (cl 174 [(9006,1004),(9011,1003),(5000,1005),(5001,1006)] (ov x1.aN x1.bU Cw.1 YF (az.mk Cw.2.1 Cw.2.2.1 Cw.2.2.2.1 () () Cw.2.2.2.2.1 (aP.mk Cw.2.2.2.2.2.1 Cw.2.2.2.2.2.2.1 Cw.2.2.2.2.2.2.2.1) Cw.2.2.2.2.2.2.2.2.1 Cw.2.2.2.2.2.2.2.2.2.1) (ak.mk (bW.mk Cw.2.2.2.2.2.2.2.2.2.2.2.2.2.1) Cw.2.2.2.2.2.2.2.2.2.2.2.2.2.2.1 Cw.2.2.2.2.2.2.2.2.2.2.1 Cw.2.2.2.2.2.2.2.2.2.2.2.1 Cw.2.2.2.2.2.2.2.2.2.2.2.2.1 Cw.2.2.2.2.2.2.2.2.2.2.2.2.2.2.2.1) (aU.mk Cw.2.2.2.2.2.2.2.2.2.2.2.2.2.2.2.2))) λxA=>If xA.1 (nX [] [(1003,1005),(1004,1006)] (some ((IntKind.wrap .i64 (Cw.1+1)),xA.2.1.EC,xA.2.1.ld,xA.2.1.sd,xA.2.1.qP,xA.2.1.bn.dL,xA.2.1.bn.aY,xA.2.1.bn.bf,xA.2.1.eh,xA.2.1.cr,xA.2.2.1.dq,xA.2.2.1.eL,xA.2.2.1.dE,xA.2.2.1.fX.ba,xA.2.2.1.dB,xA.2.2.1.bq,xA.2.2.2.ba)))<|nX [] [(1003,1005),(1004,1006)] (some (Cw.1,xA.2.1.EC,xA.2.1.ld,xA.2.1.sd,xA.2.1.qP,xA.2.1.bn.dL,xA.2.1.bn.aY,xA.2.1.bn.bf,xA.2.1.eh,xA.2.1.cr,xA.2.2.1.dq,xA.2.2.1.eL,xA.2.2.1.dE,xA.2.2.1.fX.ba,xA.2.2.1.dB,xA.2.2.1.bq,xA.2.2.2.ba))) λCw=>rX [(5000,1003),(5001,1004)] (some ((az.mk Cw.2.1 Cw.2.2.1 Cw.2.2.2.1 () () Cw.2.2.2.2.1 (aP.mk Cw.2.2.2.2.2.1 Cw.2.2.2.2.2.2.1 Cw.2.2.2.2.2.2.2.1) Cw.2.2.2.2.2.2.2.2.1 Cw.2.2.2.2.2.2.2.2.2.1),(ak.mk (bW.mk Cw.2.2.2.2.2.2.2.2.2.2.2.2.2.1) Cw.2.2.2.2.2.2.2.2.2.2.2.2.2.2.1 Cw.2.2.2.2.2.2.2.2.2.2.1 Cw.2.2.2.2.2.2.2.2.2.2.2.1 Cw.2.2.2.2.2.2.2.2.2.2.2.2.1 Cw.2.2.2.2.2.2.2.2.2.2.2.2.2.2.2.1),(aU.mk Cw.2.2.2.2.2.2.2.2.2.2.2.2.2.2.2.2),(tP o12 (Int.toNat x1.bU) (IntKind.wrap .i64 ((o12 (Int.toNat x1.bU))+1)))))
instance Ox{x1 o0 o2 o5 o12}:MA (ox x1 o0 o2 o5 o12) prog 80 (λ_=>15) λr=>⟨[.ref 9000 0,.agg (EL x1),.ref 9012 0],[(9000,some (.bJ 194 (az.b0 ({ o0 with bn:=(aP.mk [] [] []) }:az) (.row 9001) (.ref 9002 0) (.ref 9005 0) (.row 9007) (.row 9008) (.row 9009) (.row 9010) (.row 9011)))),(9001,some (.R 176 7 df o0.ld)),(9002,some (.bJ 299 (ak.b0 o2 (.row 9003) (.row 9004)))),(9003,some (.R 181 4 du o2.dB)),(9004,some (.mp (nU cU DV.bool o2.bq))),(9005,some (.bJ 305 [.row 9006])),(9006,some (.R 320 8 dG o5.ba)),(9007,some (.R 201 3 fk o0.bn.dL)),(9008,some (.R 4 1 DV.bool o0.bn.aY)),(9009,some (.R 3 1 (DV.int .i64) o0.bn.bf)),(9010,some (.R 192 3 fD o0.eh)),(9011,some (.R 45 9 AEv.dv o0.cr)),(9012,some (.bJ 204 (GN o12)))],.gh [],[(9000,some (.bJ 194 (az.b0 ({ r.1 with bn:=(aP.mk [] [] []) }:az) (.row 9001) (.ref 9002 0) (.ref 9005 0) (.row 9007) (.row 9008) (.row 9009) (.row 9010) (.row 5000)))),(9002,some (.bJ 299 (ak.b0 r.2.1 (.row 9003) (.row 9004)))),(9005,some (.bJ 305 [.row 5001])),(9012,some (.bJ 204 (GN r.2.2.2))),(9001,some (.R 176 7 df r.1.ld)),(9003,some (.R 181 4 du r.2.1.dB)),(9004,some (.mp (nU cU DV.bool r.2.1.bq))),(9007,some (.R 201 3 fk r.1.bn.dL)),(9008,some (.R 4 1 DV.bool r.1.bn.aY)),(9009,some (.R 3 1 (DV.int .i64) r.1.bn.bf)),(9010,some (.R 192 3 fD r.1.eh)),(5000,some (.R 45 9 AEv.dv r.1.cr)),(5001,some (.R 320 8 dG r.2.2.1.ba)),(9006,none),(9011,none)],[5000,5001]⟩:=.e func80 ntmps80
def xR(o0:List aM)(o1:List Bool)(o2:List Int):Option aP :=Ck (kY 72 (o0.length:Int) (o0.length:Int))<|eE 7 fk (aM.mk [] [] (aQ.mk [])) λ_=>Ck (kY 1 (o1.length:Int) (o1.length:Int))<|eE 11 DV.bool false λ_=>Ck (kY 8 (o2.length:Int) (o2.length:Int))<|eE 15 (DV.int .i64) 0 λ_=>wk [.z 7,.z 11,.z 15]<|rX [] (some (aP.mk (LG (List.replicate (Int.toNat (o0.length:Int)) (aM.mk [] [] (aQ.mk []))) o0) (LG (List.replicate (Int.toNat (o1.length:Int)) false) o1) (LG (List.replicate (Int.toNat (o2.length:Int)) (0:Int)) o2)))
instance ab7{o0 o1 o2}:MA (xR o0 o1 o2) prog 81 (λ_=>0) λr=>⟨[.agg [.row 9000,.row 9001,.row 9002]],[(9000,some (.R 201 3 fk o0)),(9001,some (.R 4 1 DV.bool o1)),(9002,some (.R 3 1 (DV.int .i64) o2))],.agg (Jr r),[(9000,some (.R 201 3 fk o0)),(9001,some (.R 4 1 DV.bool o1)),(9002,some (.R 3 1 (DV.int .i64) o2))],[]⟩:=.b func81 ntmps81
def qz(o0:az)(o2:ak)(o5:aU):Option (Bool×az×ak×aU) :=Bi (cl 10 [] (nB o0 o2 o5)) λv2=>If (v2||(decide (o0.EC.lB<o0.qP))) (rX [(5000,9010),(5001,9011),(5002,9006)] (some (false,o0,o2,o5)))<|Bi (fj o0.EC.eX) λv4=>Bi (cl 30 [(5000,1001)] (uz o0 o2 o5)) λv6=>fL (v6.1.EC,v6.1.ld,v6.1.sd,v6.1.qP,v6.1.bn.dL,v6.1.bn.aY,v6.1.bn.bf,v6.1.eh,v6.1.cr,v6.2.dq,v6.2.eL,v6.2.dE,v6.2.fX.ba,v6.2.dB,v6.2.bq,o5.ba) 32 [9000,9001,9002,9003,9004,9005,9006,9007,9008,9009,9010,9011] [0,3,31] [] i2 (λs t=>(1002,some (.R 45 9 AEv.dv s.2.2.2.2.2.2.2.2.1))::(1003,some (.R 320 8 dG s.2.2.2.2.2.2.2.2.2.2.2.2.2.2.2))::(9000,some (.bJ 194 (az.b0 (az.mk s.1 [] s.2.2.1 () () s.2.2.2.1 (aP.mk [] [] []) [] []) (.row 9001) (.ref 9002 0) (.ref 9005 0) (.row 9007) (.row 9008) (.row 9009) (.row 9010) (.row 1002))))::(9001,some (.R 176 7 df s.2.1))::(9002,some (.bJ 299 (ak.b0 (ak.mk (bW.mk s.2.2.2.2.2.2.2.2.2.2.2.2.1) [] s.2.2.2.2.2.2.2.2.2.1 s.2.2.2.2.2.2.2.2.2.2.1 s.2.2.2.2.2.2.2.2.2.2.2.1 []) (.row 9003) (.row 9004))))::(9003,some (.R 181 4 du s.2.2.2.2.2.2.2.2.2.2.2.2.2.1))::(9004,some (.mp (nU cU DV.bool s.2.2.2.2.2.2.2.2.2.2.2.2.2.2.1)))::(9005,some (.bJ 305 [.row 1003]))::(9007,some (.R 201 3 fk s.2.2.2.2.1))::(9008,some (.R 4 1 DV.bool s.2.2.2.2.2.1))::(9009,some (.R 3 1 (DV.int .i64) s.2.2.2.2.2.2.1))::(9010,some (.R 192 3 fD s.2.2.2.2.2.2.2.1))::t) [] [(1002,1001),(1003,9006)] m64 v4 (λk7 yf=>Bi (cl 37 [(9006,1003),(9011,1002),(5000,1012),(5001,1013)] (tJ (k7:Int) (az.mk yf.1 yf.2.1 yf.2.2.1 () () yf.2.2.2.1 (aP.mk yf.2.2.2.2.1 yf.2.2.2.2.2.1 yf.2.2.2.2.2.2.1) yf.2.2.2.2.2.2.2.1 yf.2.2.2.2.2.2.2.2.1) (ak.mk (bW.mk yf.2.2.2.2.2.2.2.2.2.2.2.2.1) yf.2.2.2.2.2.2.2.2.2.2.2.2.2.1 yf.2.2.2.2.2.2.2.2.2.1 yf.2.2.2.2.2.2.2.2.2.2.1 yf.2.2.2.2.2.2.2.2.2.2.2.1 yf.2.2.2.2.2.2.2.2.2.2.2.2.2.2.1) (aU.mk yf.2.2.2.2.2.2.2.2.2.2.2.2.2.2.2))) λv75=>Bi (cl 40 [(9006,1013),(9011,1012),(5000,1014)] (sK (k7:Int) v75.1 v75.2.1 v75.2.2)) λJn=>nX [] [(1002,1014),(1003,1013)] (some (Jn.1.EC,Jn.1.ld,Jn.1.sd,Jn.1.qP,Jn.1.bn.dL,Jn.1.bn.aY,Jn.1.bn.bf,Jn.1.eh,Jn.1.cr,Jn.2.dq,Jn.2.eL,Jn.2.dE,Jn.2.fX.ba,Jn.2.dB,Jn.2.bq,v75.2.2.ba))) λyf=>Bi (cl 43 [(9006,1003),(9011,1002),(5000,1004)] (sJ (az.mk yf.1 yf.2.1 yf.2.2.1 () () yf.2.2.2.1 (aP.mk yf.2.2.2.2.1 yf.2.2.2.2.2.1 yf.2.2.2.2.2.2.1) yf.2.2.2.2.2.2.2.1 yf.2.2.2.2.2.2.2.2.1) (ak.mk (bW.mk yf.2.2.2.2.2.2.2.2.2.2.2.2.1) yf.2.2.2.2.2.2.2.2.2.2.2.2.2.1 yf.2.2.2.2.2.2.2.2.2.1 yf.2.2.2.2.2.2.2.2.2.2.1 yf.2.2.2.2.2.2.2.2.2.2.2.1 yf.2.2.2.2.2.2.2.2.2.2.2.2.2.2.1) (aU.mk yf.2.2.2.2.2.2.2.2.2.2.2.2.2.2.2))) λxz=>fL (yf.1,yf.2.1,yf.2.2.1,yf.2.2.2.1,yf.2.2.2.2.1,yf.2.2.2.2.2.1,yf.2.2.2.2.2.2.1,yf.2.2.2.2.2.2.2.1,yf.2.2.2.2.2.2.2.2.1,xz.1.dq,xz.1.eL,xz.1.dE,xz.1.fX.ba,xz.1.dB,xz.1.bq,xz.2.ba) 45 [9000,9001,9002,9003,9004,9005,9006,9007,9008,9009,9010,9011] [0,44] [] i2 (λs t=>(1005,some (.R 45 9 AEv.dv s.2.2.2.2.2.2.2.2.1))::(1006,some (.R 320 8 dG s.2.2.2.2.2.2.2.2.2.2.2.2.2.2.2))::(9000,some (.bJ 194 (az.b0 (az.mk s.1 [] s.2.2.1 () () s.2.2.2.1 (aP.mk [] [] []) [] []) (.row 9001) (.ref 9002 0) (.ref 9005 0) (.row 9007) (.row 9008) (.row 9009) (.row 9010) (.row 1005))))::(9001,some (.R 176 7 df s.2.1))::(9002,some (.bJ 299 (ak.b0 (ak.mk (bW.mk s.2.2.2.2.2.2.2.2.2.2.2.2.1) [] s.2.2.2.2.2.2.2.2.2.1 s.2.2.2.2.2.2.2.2.2.2.1 s.2.2.2.2.2.2.2.2.2.2.2.1 []) (.row 9003) (.row 9004))))::(9003,some (.R 181 4 du s.2.2.2.2.2.2.2.2.2.2.2.2.2.1))::(9004,some (.mp (nU cU DV.bool s.2.2.2.2.2.2.2.2.2.2.2.2.2.2.1)))::(9005,some (.bJ 305 [.row 1006]))::(9007,some (.R 201 3 fk s.2.2.2.2.1))::(9008,some (.R 4 1 DV.bool s.2.2.2.2.2.1))::(9009,some (.R 3 1 (DV.int .i64) s.2.2.2.2.2.2.1))::(9010,some (.R 192 3 fD s.2.2.2.2.2.2.2.1))::t) [] [(1005,1002),(1006,1004)] m64 v4 (λk27 AZ=>Bi (cl 57 [(9000,9005),(9001,1006),(5000,1007)] (sV AZ.2.2.2.1 (k27:Int) (aU.mk AZ.2.2.2.2.2.2.2.2.2.2.2.2.2.2.2))) λQK=>fL (AZ.1,AZ.2.1,AZ.2.2.1,AZ.2.2.2.1,AZ.2.2.2.2.1,AZ.2.2.2.2.2.1,AZ.2.2.2.2.2.2.1,AZ.2.2.2.2.2.2.2.1,AZ.2.2.2.2.2.2.2.2.1,(arr 0 []),AZ.2.2.2.2.2.2.2.2.2.1,AZ.2.2.2.2.2.2.2.2.2.2.1,AZ.2.2.2.2.2.2.2.2.2.2.2.1,AZ.2.2.2.2.2.2.2.2.2.2.2.2.1,AZ.2.2.2.2.2.2.2.2.2.2.2.2.2.1,AZ.2.2.2.2.2.2.2.2.2.2.2.2.2.2.1,QK.2.ba) 59 [9000,9001,9002,9003,9004,9005,9006,9007,9008,9009,9010,9011] [0,6,44,45,57,58] [] i2 (λs t=>(6,some (.bJ 204 (GN s.2.2.2.2.2.2.2.2.2.1)))::(1008,some (.R 45 9 AEv.dv s.2.2.2.2.2.2.2.2.1))::(1009,some (.R 320 8 dG s.2.2.2.2.2.2.2.2.2.2.2.2.2.2.2.2))::(9000,some (.bJ 194 (az.b0 (az.mk s.1 [] s.2.2.1 () () s.2.2.2.1 (aP.mk [] [] []) [] []) (.row 9001) (.ref 9002 0) (.ref 9005 0) (.row 9007) (.row 9008) (.row 9009) (.row 9010) (.row 1008))))::(9001,some (.R 176 7 df s.2.1))::(9002,some (.bJ 299 (ak.b0 (ak.mk (bW.mk s.2.2.2.2.2.2.2.2.2.2.2.2.2.1) [] s.2.2.2.2.2.2.2.2.2.2.1 s.2.2.2.2.2.2.2.2.2.2.2.1 s.2.2.2.2.2.2.2.2.2.2.2.2.1 []) (.row 9003) (.row 9004))))::(9003,some (.R 181 4 du s.2.2.2.2.2.2.2.2.2.2.2.2.2.2.1))::(9004,some (.mp (nU cU DV.bool s.2.2.2.2.2.2.2.2.2.2.2.2.2.2.2.1)))::(9005,some (.bJ 305 [.row 1009]))::(9007,some (.R 201 3 fk s.2.2.2.2.1))::(9008,some (.R 4 1 DV.bool s.2.2.2.2.2.1))::(9009,some (.R 3 1 (DV.int .i64) s.2.2.2.2.2.2.1))::(9010,some (.R 192 3 fD s.2.2.2.2.2.2.2.1))::t) [] [(1008,1005),(1009,1007)] m64 (QK.1.length:Int) (λk51 Ee=>Bi (idx QK.1 (k51:Int)) λv71=>Bi (cl 65 [(9006,1009),(9011,1008),(9012,6),(5000,1010),(5001,1011)] (ox v71 (az.mk Ee.1 Ee.2.1 Ee.2.2.1 () () Ee.2.2.2.1 (aP.mk Ee.2.2.2.2.1 Ee.2.2.2.2.2.1 Ee.2.2.2.2.2.2.1) Ee.2.2.2.2.2.2.2.1 Ee.2.2.2.2.2.2.2.2.1) (ak.mk (bW.mk Ee.2.2.2.2.2.2.2.2.2.2.2.2.2.1) Ee.2.2.2.2.2.2.2.2.2.2.2.2.2.2.1 Ee.2.2.2.2.2.2.2.2.2.2.1 Ee.2.2.2.2.2.2.2.2.2.2.2.1 Ee.2.2.2.2.2.2.2.2.2.2.2.2.1 Ee.2.2.2.2.2.2.2.2.2.2.2.2.2.2.2.1) (aU.mk Ee.2.2.2.2.2.2.2.2.2.2.2.2.2.2.2.2) Ee.2.2.2.2.2.2.2.2.2.1)) λKL=>nX [] [(1008,1010),(1009,1011)] (some (KL.1.EC,KL.1.ld,KL.1.sd,KL.1.qP,KL.1.bn.dL,KL.1.bn.aY,KL.1.bn.bf,KL.1.eh,KL.1.cr,KL.2.2.2,KL.2.1.dq,KL.2.1.eL,KL.2.1.dE,KL.2.1.fX.ba,KL.2.1.dB,KL.2.1.bq,KL.2.2.1.ba))) λEe=>nX [] [(1005,1008),(1006,1009)] (some (Ee.1,Ee.2.1,Ee.2.2.1,Ee.2.2.2.1,Ee.2.2.2.2.1,Ee.2.2.2.2.2.1,Ee.2.2.2.2.2.2.1,Ee.2.2.2.2.2.2.2.1,Ee.2.2.2.2.2.2.2.2.1,Ee.2.2.2.2.2.2.2.2.2.2.1,Ee.2.2.2.2.2.2.2.2.2.2.2.1,Ee.2.2.2.2.2.2.2.2.2.2.2.2.1,Ee.2.2.2.2.2.2.2.2.2.2.2.2.2.1,Ee.2.2.2.2.2.2.2.2.2.2.2.2.2.2.1,Ee.2.2.2.2.2.2.2.2.2.2.2.2.2.2.2.1,Ee.2.2.2.2.2.2.2.2.2.2.2.2.2.2.2.2))) λAZ=>Bi (cl 77 [(9000,9007),(9001,9008),(9002,9009)] (xR AZ.2.2.2.2.1 AZ.2.2.2.2.2.1 AZ.2.2.2.2.2.2.1)) λv46=>eE 78 (bA 3 fD) [v46] λxA=>Ck (dK 72 (AZ.2.2.2.2.2.2.2.1.length+List.length xA))<|rX [(5000,79),(5001,1005),(5002,1006)] (some (true,(az.mk AZ.1 AZ.2.1 AZ.2.2.1 () () (IntKind.wrap .i64 (AZ.2.2.2.1+1)) (aP.mk AZ.2.2.2.2.1 AZ.2.2.2.2.2.1 AZ.2.2.2.2.2.2.1) (AZ.2.2.2.2.2.2.2.1++xA) AZ.2.2.2.2.2.2.2.2.1),(ak.mk (bW.mk AZ.2.2.2.2.2.2.2.2.2.2.2.2.1) AZ.2.2.2.2.2.2.2.2.2.2.2.2.2.1 AZ.2.2.2.2.2.2.2.2.2.1 AZ.2.2.2.2.2.2.2.2.2.2.1 AZ.2.2.2.2.2.2.2.2.2.2.2.1 AZ.2.2.2.2.2.2.2.2.2.2.2.2.2.2.1),(aU.mk AZ.2.2.2.2.2.2.2.2.2.2.2.2.2.2.2)))
instance Ro{o0 o2 o5}:MA (qz o0 o2 o5) prog 35 (λ_=>15) λr=>⟨[.ref 9000 0],[(9000,some (.bJ 194 (az.b0 ({ o0 with bn:=(aP.mk [] [] []) }:az) (.row 9001) (.ref 9002 0) (.ref 9005 0) (.row 9007) (.row 9008) (.row 9009) (.row 9010) (.row 9011)))),(9001,some (.R 176 7 df o0.ld)),(9002,some (.bJ 299 (ak.b0 o2 (.row 9003) (.row 9004)))),(9003,some (.R 181 4 du o2.dB)),(9004,some (.mp (nU cU DV.bool o2.bq))),(9005,some (.bJ 305 [.row 9006])),(9006,some (.R 320 8 dG o5.ba)),(9007,some (.R 201 3 fk o0.bn.dL)),(9008,some (.R 4 1 DV.bool o0.bn.aY)),(9009,some (.R 3 1 (DV.int .i64) o0.bn.bf)),(9010,some (.R 192 3 fD o0.eh)),(9011,some (.R 45 9 AEv.dv o0.cr))],.bool r.1,[(9000,some (.bJ 194 (az.b0 ({ r.2.1 with bn:=(aP.mk [] [] []) }:az) (.row 9001) (.ref 9002 0) (.ref 9005 0) (.row 9007) (.row 9008) (.row 9009) (.row 5000) (.row 5001)))),(9002,some (.bJ 299 (ak.b0 r.2.2.1 (.row 9003) (.row 9004)))),(9005,some (.bJ 305 [.row 5002])),(9001,some (.R 176 7 df r.2.1.ld)),(9003,some (.R 181 4 du r.2.2.1.dB)),(9004,some (.mp (nU cU DV.bool r.2.2.1.bq))),(9007,some (.R 201 3 fk r.2.1.bn.dL)),(9008,some (.R 4 1 DV.bool r.2.1.bn.aY)),(9009,some (.R 3 1 (DV.int .i64) r.2.1.bn.bf)),(5000,some (.R 192 3 fD r.2.1.eh)),(5001,some (.R 45 9 AEv.dv r.2.1.cr)),(5002,some (.R 320 8 dG r.2.2.2.ba)),(9006,none),(9010,none),(9011,none)],[5000,5001,5002]⟩:=.b func35 ntmps35
def oz(o0:az)(o2:ak)(o5:aU):Option (List AEv) :=Bi (cl 7 [] (nB o0 o2 o5)) λv2=>If v2 (rX [] (some ([]:List AEv)))<|Ck (kY 88 (o0.cr.length:Int) (o0.cr.length:Int))<|eE 13 AEv.dv (AEv.mk 0 0 0 0 0 0 0 0 []) λ_=>fL (List.replicate (Int.toNat (o0.cr.length:Int)) (AEv.mk 0 0 0 0 0 0 0 0 [])) 19 [9000,9001,9002,9003,9004,9005,9006,9007,9008,9009,9010,9011] [17,18] [9000,9001,9002,9003,9004,9005,9006,9007,9008,9009,9010,9011] (λ_ t=>(3,.row 1001)::t) (λs t=>(1001,some (.R 45 9 AEv.dv s))::t) [] [(1001,13)] m64 (o0.cr.length:Int) (λk4 s6=>Bi (idx o0.cr (k4:Int)) λv8=>Ck (dK 8 (v8.cE.length))<|wk [.z 26]<|Bi (idx s6 (k4:Int)) λv11=>eE 31 AEv.dv v8 λv12=>nX [] [] (some (List.set s6 (Int.toNat (k4:Int)) v12))) λs6=>wk [.z 1001]<|rX [] (some s6)
instance Oz{o0 o2 o5}:MA (oz o0 o2 o5) prog 36 (λ_=>0) λr=>⟨[.ref 9000 0],[(9000,some (.bJ 194 (az.b0 ({ o0 with bn:=(aP.mk [] [] []) }:az) (.row 9001) (.ref 9002 0) (.ref 9005 0) (.row 9007) (.row 9008) (.row 9009) (.row 9010) (.row 9011)))),(9001,some (.R 176 7 df o0.ld)),(9002,some (.bJ 299 (ak.b0 o2 (.row 9003) (.row 9004)))),(9003,some (.R 181 4 du o2.dB)),(9004,some (.mp (nU cU DV.bool o2.bq))),(9005,some (.bJ 305 [.row 9006])),(9006,some (.R 320 8 dG o5.ba)),(9007,some (.R 201 3 fk o0.bn.dL)),(9008,some (.R 4 1 DV.bool o0.bn.aY)),(9009,some (.R 3 1 (DV.int .i64) o0.bn.bf)),(9010,some (.R 192 3 fD o0.eh)),(9011,some (.R 45 9 AEv.dv o0.cr))],.L 9 AEv.dv r,[(9000,some (.bJ 194 (az.b0 ({ o0 with bn:=(aP.mk [] [] []) }:az) (.row 9001) (.ref 9002 0) (.ref 9005 0) (.row 9007) (.row 9008) (.row 9009) (.row 9010) (.row 9011)))),(9001,some (.R 176 7 df o0.ld)),(9002,some (.bJ 299 (ak.b0 o2 (.row 9003) (.row 9004)))),(9003,some (.R 181 4 du o2.dB)),(9004,some (.mp (nU cU DV.bool o2.bq))),(9005,some (.bJ 305 [.row 9006])),(9006,some (.R 320 8 dG o5.ba)),(9007,some (.R 201 3 fk o0.bn.dL)),(9008,some (.R 4 1 DV.bool o0.bn.aY)),(9009,some (.R 3 1 (DV.int .i64) o0.bn.bf)),(9010,some (.R 192 3 fD o0.eh)),(9011,some (.R 45 9 AEv.dv o0.cr))],[]⟩:=.b func36 ntmps36
def zF(x0:aI)(x1:aI):Option Bool :=Bi (ko x0 x1) λv2=>some (decide (v2<0))
instance agh{x0 x1}:MC (zF x0 x1) λr=>br prog 151 [.agg (cU x0),.agg (cU x1)] (.bool r):=.p func151 ntmps151
def jX(x0:aI)(x1:aI):Option Int :=Bi (zF x0 x1) λv2=>If v2 (some (-1))<|Bi (zF x1 x0) λv4=>If v4 (some 1)<|some 0
instance IE{x0 x1}:MC (jX x0 x1) λr=>br prog 150 [.agg (cU x0),.agg (cU x1)] (.I r):=.p func150 ntmps150
def iV(x1:Int)(x2:Int)(o0:List aI):Option (List aI) :=wL (E:=(List aI)) (o0,(IntKind.wrap .i64 (x1+1))) [9000] [0,1,2,3] [] (λs t=>(8,.I s.2)::t) (λs t=>(9000,some (.R 174 4 mb s.1))::t) [] [] (λs3=>If (decide (s3.2<x2)) (wL (E:=(List aI)) (s3.1,s3.2) [9000] [0,1,2,3,8] [] (λs t=>(9,.I s.2)::t) (λs t=>(9000,some (.R 174 4 mb s.1))::t) [] [] (λs6=>Bi (gb (decide (x1<s6.2)) (aI.mk 0 0 0 0) (idx s6.1 s6.2)) λv8=>Bi (gb (decide (x1<s6.2)) (aI.mk 0 0 0 0) (idx s6.1 (IntKind.wrap .i64 (s6.2-1)))) λv10=>Bi (gb (decide (x1<s6.2)) (0) (jX v8 v10)) λv12=>If ((decide (x1<s6.2))&&(decide (v12<0))) (Bi (idx s6.1 (IntKind.wrap .i64 (s6.2-1))) λll=>Bi (idx s6.1 s6.2) λmA=>eE 51 mb ll λoi=>Bi (idx (List.set s6.1 (Int.toNat s6.2) oi) (IntKind.wrap .i64 (s6.2-1))) λxa=>eE 52 mb mA λv20=>nX [] [] (some (.next ((List.set (List.set s6.1 (Int.toNat s6.2) oi) (Int.toNat (IntKind.wrap .i64 (s6.2-1))) v20),(IntKind.wrap .i64 (s6.2-1))))))<|some (.done s6.1)) λe21=>nX [] [] (some (.next (e21,(IntKind.wrap .i64 (s3.2+1))))))<|some (.done s3.1)) λe22=>rX [] (some e22)
instance CC{x1 x2 o0}:MA (iV x1 x2 o0) prog 269 (λ_=>1) λr=>⟨[.row 9000,.I x1,.I x2,.val (.func (.func 150) #[] #[])],[(9000,some (.R 174 4 mb o0))],.gh [],[(9000,some (.R 174 4 mb r))],[]⟩:=.e func269 ntmps269
@[reducible] def nA(s3:Unit):Option (List aI) :=none
def kA(x1:Int)(x2:Int)(x3:Int)(o0:List aI):Option (List aI) :=o1<|If (decide ((IntKind.wrap .i64 (x2-x1))<=12)) (Bi (cl 30 [] (iV x1 x2 o0)) λv2=>rX [] (some v2))<|If (x3==0) (none)<|jn nA 7 [9000] [0,1,2,3,4,10,11,12] [9000] i2 i2<|If (!true) (none)<|nX [] [] (nA ())
instance FA{x1 x2 x3 o0}:MA (kA x1 x2 x3 o0) prog 212 (λ_=>1) λr=>⟨[.row 9000,.I x1,.I x2,.I x3,.val (.func (.func 150) #[] #[])],[(9000,some (.R 174 4 mb o0))],.gh [],[(9000,some (.R 174 4 mb r))],[]⟩:=.e func212 ntmps212
def fP(o0:List aI):Option (List aI) :=Bi (rB (IntKind.wrap .u64 (o0.length:Int))) λv2=>Bi (cl 13 [] (kA 0 (o0.length:Int) v2 o0)) λv4=>rX [] (some v4)
instance tT{o0}:MA (fP o0) prog 149 (λ_=>1) λr=>⟨[.row 9000,.val (.func (.func 150) #[] #[])],[(9000,some (.R 174 4 mb o0))],.gh [],[(9000,some (.R 174 4 mb r))],[]⟩:=.e func149 ntmps149
end Go.Proofs.YtaafmkmdfcgeaaaGreatDoor
namespace Go.Proofs.YtaafmkmdfcgeaaaGreatDoor
open Go.Proofs.Tryz
theorem Bj(x:Int):I6 (IntKind.wrap .i64 x):=by
 unfold I6;rw[IntKind.wrap_i64];omega
theorem I6.of{x:Int}(h:-1000000000<=x∧x<=1000000000):I6 x:=by unfold I6;omega
theorem aj5{x y:Int}(hx:I6 x):I6 (Int.tmod x y):=by
 unfold I6 at *;have h:=Int.natAbs_tmod x y;have h2:=Nat.mod_le x.natAbs y.natAbs;rcases Int.le_total 0 x with h0|h0
 .omega
 .have:Int.tmod x y<=0:=by
   have:=Int.tmod_nonneg y (show 0<=-x by omega)
   simp_all
  omega
theorem LZ(b:Bool):Wp (mn b) I6:=by
 exact aq (λ_=>aj (I6.of aV)) (λ_=>aj (I6.of aV))
theorem MU(b:Bool):Wp (BG b) I6:=by
 exact aq (λ_=>aj (I6.of aV)) (λ_=>aj (I6.of aV))
theorem abG{o x:Int}:Wp (Fh o x) λq=>I6 q.1:=by
 refine aq (λ_=>aj (Bj _)) (λ_=>aq (λ_=>av (LZ _) (λ_ h=>aj h)) (λ_=>aj (I6.of aV)))
theorem ZU{o x y:Int}(hx:I6 x):Wp (Dv o x y) I6:=by
 refine aq (λ_=>aj (I6.of aV)) (λh0=>?_);have:y≠0:=eJ;refine aq (λ_=>aj (Bj _)) (λ_=>aq (λ_=>aj (I6.of aV)) (λ_=>aq (λ_=>aK this (aj (Bj _))) (λ_=>aK this (aj (aj5 hx)))))
theorem aah{o x y:Int}(hx:I6 x):Wp (Dx o x y) λq=>I6 q.1:=by
 have tr:∀b,Wp (Bi (mn b) λv=>some ((v,0):Int×Int)) λq=>I6 q.1:=λb=>av (LZ b) (λ_ h=>aj h)
 have k2:∀b,Wp (vw o x y b) λq=>I6 q.1:=by
  intro b;refine aq (λ_=>av (ZU hx) (λ_ h=>aj h)) (λ_=>?_);refine aq (λ_=>aj (Bj _)) (λ_=>aq (λ_=>aj (Bj _)) (λ_=>?_));refine aq (λ_=>tr _) (λ_=>aq (λ_=>tr _) (λ_=>aq (λ_=>tr _) (λ_=>aq (λ_=>tr _) (λ_=>aq (λ_=>tr _) (λ_=>aq (λ_=>tr _) (λ_=>aq (λ_=>tr _) (λ_=>aq (λ_=>tr _) (λ_=>?_))))))));exact ay (aj (I6.of aV))
 exact cX (aq (λ_=>aj (Bj _)) (λ_=>cX (aq (λ_=>ay (k2 _)) (λ_=>ay (k2 _)))))
theorem Hi{i j:Int}(h0:0<=i)(h1:i<j)(h2:j<=1000000000000):IntKind.wrap .i64 (Int.fdiv (IntKind.wrap .u64 (IntKind.wrap .i64 (i+j))) (2^min (Int.toNat 1) (IntKind.bits .u64)))=(i+j) / 2:=by
 have e:(2:Int)^min (Int.toNat 1) (IntKind.bits .u64)=2:=aV;rw[e,wrap_i64 (n:=i+j) ah ah,wrap_u64 ah ah,Int.fdiv_eq_ediv_of_nonneg _ aV,wrap_i64 ah ah]
theorem adq(a b:Int):Ji (vC a b):=by
 refine mC (aj (mC (aj (aq (λ_=>aq (λ_=>aj trivial) (λ_=>aj trivial)) (λ_=>aq (λ_=>aj trivial) (λ_=>aq (λ_=>aj trivial) (λ_=>aq (λ_=>aj trivial) (λ_=>aj trivial))))))))
theorem RI(a b:Int):Ji (xZ a b):=by
 exact mC (aj (av (P:=λ_=>True) (gX (λ_=>aj trivial) (λ_=>trivial)) (λ_ _=>aj trivial)))
theorem MS(a:cy)(b:Int):Ji (qo a b):=by
 exact av (adq _ _) (λ_ _=>aj trivial)
theorem FG{t:aQ}{k:Int}(hl:t.ba.length<=1000):Wp (ni t k) λr=>0<=r.1∧r.1<=t.ba.length∧(r.2=true->r.1<t.ba.length):=by
 refine av (P:=λr=>0<=r.1∧r.1<=(t.ba.length:Int)∧(r.2=true->r.1<(t.ba.length:Int))) (aW ?_) (λr h=>aj h);refine jR (λs=>0<=s.1∧s.1<=s.2∧s.2<=(t.ba.length:Int)) (λs=>(s.2-s.1).toNat) ⟨Int.le_refl _,aR,Int.le_refl _⟩ bB ?_;rintro⟨i,j⟩ ⟨i0,ij,jn⟩;refine aq (λhb=>?_) (λhb=>aj ?_)
 .have DM:i<j:=by simpa using hb
  rw[Hi i0 DM ah];refine fE ah ah (λv _ _=>av (MS _ _) (λq _=>aq (λ_=>ay (aj ?_)) (λ_=>ay (aj ?_))))
  .rw[wrap_i64 ah ah]
   exact⟨⟨ah,bB,bB⟩,ah⟩
  .exact⟨⟨ah,bB,ah⟩,ah⟩
 .refine av (P:=λ_=>True) (gX (λh=>?_) (λ_=>trivial)) (λv _=>av (P:=λ_=>True) (gX (λ_=>MS _ _) (λ_=>trivial)) (λu _=>aL (aj ⟨i0,bB,λh=>?_⟩)))
  .have:i<(t.ba.length:Int):=by simpa using h
   exact CW i0 this (λ_ _ _=>trivial)
  simp_all
theorem aeQ{l:List Int}{k:Int}(hl:l.length<=1000):Ji (mL l k):=by
 refine jR (λs=>0<=s.1∧s.1<=s.2∧s.2<=(l.length:Int)) (λs=>(s.2-s.1).toNat) ⟨Int.le_refl _,bB,Int.le_refl _⟩ bB ?_;rintro⟨i,j⟩ ⟨i0,ij,jn⟩;refine aq (λhb=>?_) (λhb=>aj ?_)
 .have DM:i<j:=by simpa using hb
  rw[Hi i0 DM ah];refine fE ah ah (λv _ _=>av (RI _ _) (λq _=>aq (λ_=>ay (aj ?_)) (λ_=>ay (aj ?_))))
  .rw[wrap_i64 ah ah]
   exact⟨⟨ah,bB,bB⟩,ah⟩
  .exact⟨⟨ah,ah,bB⟩,bB⟩
 .have at_:∀{c:Bool},(c=true->i<(l.length:Int))->Ji (gb c 0 (idx l i)):=λh=>gX (λe=>CW i0 (h e) (λ_ _ _=>trivial)) (λ_=>trivial)
  refine av (at_ (λh=>DB)) (λv _=>av (at_ (λh=>eJ)) (λu _=>?_));exact av (P:=λ_=>True) (gX (λ_=>aj trivial) (λ_=>trivial)) (λ_ _=>av (P:=λ_=>True) (gX (λ_=>aj trivial) (λ_=>trivial)) (λ_ _=>aj trivial))
structure BS(t:aQ):Prop where
 len:t.ba.length<=16
 es:∀e∈t.ba,I6 e.akN∧I6 e.Pc
theorem BS.nil:BS ⟨[]⟩:=⟨aR,aR⟩
theorem Oc{t:aQ}{k:Int}(h:BS t):Wp (ku t k) λq=>I6 q.1:=by
 have:=h.len;refine av (FG ah) ?_;rintro⟨i,f⟩ ⟨i0,i1,i2⟩;refine aq (λ_=>aj (I6.of aV)) (λhf=>?_);have:f=true:=eJ;exact fE i0 (i2 this) (λv _ v2=>aj (h.es v v2).2)
theorem ahE{n:Int}(h0:0<=n)(h1:n<=1000):iW n=some []:=by
 refine dD (cX (aq (λh=>EE) (λ_=>ay (cX ?_))));rw[wrap_i64 (n:=0-0) aV aV,wrap_i64 (n:=n-(0-0)) ah ah];refine aq (λh=>?_) (λ_=>ay (aL (aj rfl)));have:0<n:=nV;exact aK ⟨ah,Iu ah aV⟩ (aX (aK vI (ay (aL (aj aR)))))
theorem MY{l:List (List cy)}(h:l.length<=3)(hl:∀x∈l,x.length<=20):gg l=some l.flatten:=by
 refine dD (cC (λj s=>0<=s∧s<=20*j) nV ⟨Int.le_refl _,aR⟩ ?_ ?_)
 .rintro j s hj ⟨s0,s1⟩
  refine bO hj (λx _ x2=>?_);have:=hl x x2;rw[wrap_i64 ah ah];exact aq (λh=>EE) (λ_=>ay (aj ah))
 rintro s ⟨s0,s1⟩;refine aF (by unfold cl;exact ahE s0 ah) ?_;refine cC (λj s=>s=(l.take j).flatten∧s.length<=20*j) gx ⟨aR,aR⟩ ?_ ?_
 .rintro j s hj ⟨rfl,s1⟩
  refine bO hj (λx x1 x2=>?_);have:=hl x x2;refine aK (Iu ah aV) (ay (aj ⟨?_,Ya⟩));rw[List.take_add_one,x1];simp
 .rintro s ⟨rfl,_⟩
  rw[Int.toNat_natCast,List.take_length];exact aL (aj rfl)
theorem agF{t:aQ}{k v:Int}(h:BS t)(hk:I6 k)(hv:I6 v):Wp (ni t k) λf=>(f.2=true∨t.ba.length<16)->Wp (mf t k v) BS:=by
 have hlen:=h.len;obtain⟨⟨i,f⟩,hf,i0,i1,i2⟩:=FG (t:=t) (k:=k) ah;refine⟨(i,f),hf,λry=>?_⟩;dsimp only at i0 i1 i2 ry;unfold mf;refine aF hf ?_
 have K1:∀rest:List cy,(∀e∈rest,e∈t.ba)->i+1+rest.length<=16->Wp (qp t k v (i,f) rest) BS:=by
  intro rest hr hl;refine aK ad9 (aX (aX ?_));have hti:(List.take (Int.toNat i) t.ba).length<=i.toNat:=zG
  have hcc:=MY (l:=[List.take (Int.toNat i) t.ba,[⟨k,v⟩],rest]) aR (λx hx=>by
   simp at hx
   all_goals grind)
  refine aF (by unfold cl;exact hcc) (cV (aj ⟨?_,λe he=>?_⟩))
  .dsimp only
   simp only[List.flatten_cons,List.flatten_nil,List.length_append,List.length_cons,List.length_nil];omega
  .dsimp only at he
   simp only[List.flatten_cons,List.flatten_nil,List.append_nil,List.mem_append,List.mem_singleton]at he;rcases he with he|rfl|he
   .exact h.es e (List.mem_of_mem_take he)
   .exact⟨hk,hv⟩
   .exact h.es e (hr e he)
 refine av (P:=λ_=>True) (gX (λe=>CW i0 (i2 e) (λ_ _ _=>trivial)) (λ_=>trivial)) (λu _=>?_);refine aq (λ_=>aj h) (λ_=>aK ad9 (cX (aq (λhf=>?_) (λhf=>?_))))
 .dsimp only at hf
  have hi:=i2 hf;refine aK (by unfold fC;rw[List.length_drop];dsimp only;omega) (ay (K1 _ (λe he=>List.mem_of_mem_drop (List.mem_of_mem_drop he)) ?_));rw[List.length_drop,List.length_drop];omega
 .dsimp only at hf
  refine ay (K1 _ (λe he=>List.mem_of_mem_drop he) ?_);rw[List.length_drop];dsimp only;rcases ry with h|h
  all_goals grind
theorem WR{t:aQ}{k v:Int}(h:BS t)(hk:I6 k)(hv:I6 v):Wp (ku t k) λg=>(g.2||(decide ((t.ba.length:Int)<16)))=true->Wp (mf t k v) BS:=by
 obtain⟨⟨i,f⟩,hf,hp⟩:=agF h hk hv;obtain⟨⟨i',f'⟩,hf',i0,i1,i2⟩:=FG (t:=t) (k:=k) (by have:=h.len;omega);rw[hf]at hf';obtain⟨rfl,rfl⟩:=Prod.mk.inj (Option.some.inj hf');refine aF hf (aq (λ_=>aj (λe=>hp ?_)) (λhb=>?_))
 .have:(t.ba.length:Int)<16:=by grind
  omega
 .have:f=true:=by simp_all
  exact fE i0 (i2 this) (λv _ _=>aj (λ_=>hp (.inl this)))
theorem agH{t:aQ}{k:Int}(h:BS t):Wp (qs t k) BS:=by
 have hlen:=h.len;refine av (FG ah) ?_;rintro⟨i,f⟩ ⟨i0,i1,i2⟩;refine aq (λ_=>aj h) (λhf=>?_);have hi:=i2 eJ;rw[wrap_i64 (n:=i+1) ah ah];refine aK vI (aK vI (aX ?_));have hti:(List.take (Int.toNat i) t.ba).length<=i.toNat:=eJ
 have hcc:=MY (l:=[List.take (Int.toNat i) t.ba,List.drop (Int.toNat (i+1)) t.ba]) aR (λx hx=>by
  simp at hx;rcases hx with rfl|rfl
  .omega
  .rw[List.length_drop];omega)
 refine aF (by unfold cl;exact hcc) (cV (aj ⟨?_,λe he=>?_⟩))
 .simp only[List.flatten_cons,List.flatten_nil,List.length_append,List.length_nil,List.length_drop]
  omega
 .simp only[List.flatten_cons,List.flatten_nil,List.append_nil,List.mem_append]at he
  rcases he with he|he
  .exact h.es e (List.mem_of_mem_take he)
  .exact h.es e (List.mem_of_mem_drop he)
structure XIn(nv na nf nt:Nat)(x:aC):Prop where
 v:x.cZ=2∨x.cZ=24∨x.cZ=33->0<=x.gA∧x.gA<nv
 p:x.cZ=3->0<=x.gA∧x.gA<na
 f:x.cZ=4->0<=x.gA∧x.gA<nf
 t:x.cZ=6∨x.cZ=7∨x.cZ=8∨x.cZ=25∨x.cZ=26->0<=x.gA∧x.gA<nt
 s:x.cZ=30∨x.cZ=31->0<=x.gB∧0<=x.gN∧x.gN<=4
structure XE where
 cs:List aC
 H:List Int
 top:Int
 N:Nat
 nv:Nat
 nt:Nat
 args:List Int
 fl:List Bool
structure ak5(E:XE):Prop where
 hs:HS E.cs E.H E.top E.cs.length
 hl:E.H.length=E.cs.length+1
 t64:E.top<=64
 cl:E.cs.length<=4000
 ci:CI E.N E.cs
 xi:∀x∈E.cs,XIn E.nv E.args.length E.fl.length E.nt x
 ai:∀a∈E.args,I6 a
structure aiz(N:Nat)(e:cw):Prop where
 k0:1<=e.bC
 k1:e.bC<=5
 to:e.bC=1->0<=e.uJ∧e.uJ<N
 h:e.bC=1∨e.bC=2->0<=e.bU∧e.bU<=6
 d:I6 e.Hl
 k:I6 e.cQ
 v:I6 e.Vi
 al:e.cE.length<=4
 args:∀x∈e.cE,I6 x
structure ae9(s:aM):Prop where
 v:∀x∈s.eG,I6 x
 t:∀x∈s.dh,BS x
 d:BS s.ez
structure QD(E:XE)(k:Nat)(m:aJ):Prop where
 code:m.cM=E.cs
 args:m.ca.cE=E.args
 fl:m.ca.aY=E.fl
 now:I6 m.ca.Dt
 fail:m.ca.xp.length<=1000
 st:ae9 m.aE.bL
 nv:m.aE.bL.eG.length=E.nv
 nt:m.aE.bL.dh.length=E.nt
 Ol:∀v∈m.cG,I6 v
 el:m.aE.dt.length<=k
 ef:∀e∈m.aE.dt,aiz E.N e
 s0:0<=m.ml
 s8:m.ml<=8
 d0:0<=m.dE
 dk:m.dE<=k
structure SP(E:XE)(k:Nat)(m:aJ):Prop where
 so:QD E k m
 n0:0<=m.sa
 n1:m.sa<=E.cs.length
 sl:m.cG.length<=100
 ht:m.mm=false->m.sa<E.cs.length->E.H[m.sa.toNat]? = some (m.cG.length:Int)
section
variable {E:XE} {k i:Nat} {m:aJ} {x:aC}
theorem OI{v:Int}(hl:m.cG.length<=1000):eV v m=some { m with cG:=m.cG++[v] }:=by
 exact dD (aX (aK (yk ah aV) (aL (aj rfl))))
theorem wA(h1:1<=m.cG.length)(hl:m.cG.length<=1000)(hi:∀v∈m.cG,I6 v):Wp (eB m) λq=>I6 q.1∧∃s,q.2 = { m with cG:=s }∧s.length+1=m.cG.length∧∀v∈s,I6 v:=by
 unfold eB;rw[wrap_i64 (n:=(m.cG.length:Int)-1) ah ah];refine fE ah ah (λv _ v2=>aK vI (aL (aj ⟨hi v v2,_,rfl,?_,λu hu=>hi u (List.mem_of_mem_take hu)⟩)))
 simp_all
theorem QD.up{k':Nat}(h:QD E k m)(hk:k<=k'):QD E k' m:={ h with el:=Nat.le_trans h.el hk,dk:=by have:=h.dk;omega }
theorem QD.stack(h:QD E k m){s:List Int}(hs:∀v∈s,I6 v):QD E k { m with cG:=s }:=⟨h.code,h.args,h.fl,h.now,h.fail,h.st,h.nv,h.nt,hs,h.el,h.ef,h.s0,h.s8,h.d0,h.dk⟩
structure SZ(E:XE)(k i:Nat)(m:aJ)(x:aC):Prop where
 e:ak5 E
 so:QD E k m
 hx:E.cs[i]? = some x
 nx:m.sa=(i:Int)+1
 xW:HIn E.H E.top i x (m.cG.length:Int)
 nf:m.mm=false
theorem SZ.len(a:SZ E k i m x):m.cG.length<=64:=by have:=a.xW.atL;have:=a.e.t64;omega
theorem SZ.io(a:SZ E k i m x):IOk E.N x:=(a.e.ci x (List.mem_of_getElem? a.hx)).1
theorem SZ.xi(a:SZ E k i m x):XIn E.nv E.args.length E.fl.length E.nt x:=a.e.xi x (List.mem_of_getElem? a.hx)
theorem SZ.il(a:SZ E k i m x):i<E.cs.length:=(List.getElem?_eq_some_iff.1 a.hx).1
theorem SZ.norm(a:SZ E k i m x)(h27:x.cZ≠27)(h34:x.cZ≠34){m':aJ}(so:QD E (k+1) m')(hn:m'.sa=(i:Int)+1)(hl:(m'.cG.length:Int)=(m.cG.length:Int)-fS x+fq x.cZ):SP E (k+1) m':=by
 have il:=a.il;have t:=a.xW.amP;have t64:=a.e.t64;refine⟨so,ah,ah,ah,λ_ my=>?_⟩;have:=a.xW.next h27 h34
 simp_all
theorem SZ.push(a:SZ E k i m x){v:Int}(hv:I6 v)(h0:fS x=0)(h1:fq x.cZ=1)(h27:x.cZ≠27)(h34:x.cZ≠34):SP E (k+1) { m with cG:=m.cG++[v] }:=by
 refine a.norm h27 h34 ((a.so.stack (λu hu=>?_)).up (Nat.le_succ k)) a.nx ?_
 .rcases List.mem_append.1 hu with hu|hu
  .exact a.so.Ol u hu
  simp_all
 simp_all
theorem agY(a:SZ E k i m x)(ho:x.cZ=30∨x.cZ=31)(hk:k<=10000000):Wp (py x m) (SP E (k+1)):=by
 have len:=a.len;have so:=a.so;have xs:=a.xi.s ho;have io:=a.io;have aaK:=a.xW.pop;have e1:fS x=mj x.cZ+x.gN:=by unfold fS;rw[if_pos ho]
 have DP:=so.s8;have hs0:=so.s0;have Yx:=so.el;have hnn:=a.nx;have il:=a.il;unfold py;refine aq (λ_=>aL (aj ⟨(⟨so.code,so.args,so.fl,so.now,so.fail,so.st,so.nv,so.nt,so.Ol,so.el,so.ef,so.s0,so.s8,so.d0,so.dk⟩:QD E k { m with mm:=true }).up (Nat.le_succ k),bB,bB,bB,λh=>dI⟩)) (λhb=>?_);have hs7:m.ml≠8:=DD
 have hN:x.gN<=m.cG.length:=by
  have:=EU x.cZ;omega
 obtain⟨n,hn⟩:=Int.eq_ofNat_of_zero_le xs.2.1;rw[hn]at hN;have w1:IntKind.wrap .i64 ((m.cG.length:Int)-x.gN)=((m.cG.length-n:Nat):Int):=by rw[hn,wrap_i64 ah ah];omega
 have w2:IntKind.wrap .i64 (m.ml+1)=m.ml+1:=wrap_i64 ah ah;rw[w1,w2];refine aK vI ?_
 have Em:iJ (Int.toNat ((m.cG.length-n:Nat):Int)) (Int.toNat ((m.cG.length:Int)-((m.cG.length-n:Nat):Int))) m.cG=some ((m.cG.drop (m.cG.length-n)).take n):=by
  unfold iJ;have t1:Int.toNat ((m.cG.length-n:Nat):Int)=m.cG.length-n:=ah;have t2:Int.toNat ((m.cG.length:Int)-((m.cG.length-n:Nat):Int))=n:=ah;rw[t1,t2,tA ⟨ah,Iu iC aV⟩];simp
 refine aF (by unfold cl;exact Em) (aK vI (cX ?_));generalize hv3:(m.cG.drop (m.cG.length-n)).take n=v3
 have a3:v3.length<=4∧∀y∈v3,I6 y:=by
  rw[<-hv3];refine⟨zG,λy hy=>so.Ol y (List.mem_of_mem_drop (List.mem_of_mem_take hy))⟩
 rw[Int.toNat_natCast];have tl:(m.cG.take (m.cG.length-n)).length=m.cG.length-n:=zG;have tm:∀y∈m.cG.take (m.cG.length-n),I6 y:=λy hy=>so.Ol y (List.mem_of_mem_take hy)
 generalize m.cG.take (m.cG.length-n)=st at tl tm
 -- the end of both ways
 have fin:∀(s:List Int) (kd dl:Int),(∀y∈s,I6 y)->(s.length:Int)=(m.cG.length:Int)-fS x->(kd=1∧x.cZ=30∨kd=2)->I6 dl->Wp (mX x m v3 (m.aE.bL.ez.ba,m.aE.jm,m.cM,m.ca.cE,m.ca.Dt,m.ca.ez,m.ca.xp,s,m.sa,m.ml+1,m.dE,m.mm,kd,dl)) (SP E (k+1)):=by
  intro s kd dl hs DP hkd ZF;refine cV (aX (aK (yk ah aV) (aL (aj (a.norm ah ah ⟨so.code,so.args,so.fl,so.now,so.fail,so.st,so.nv,so.nt,hs,?_,λe he=>?_,bB,bB,so.d0,VU⟩ a.nx ?_)))))
  .simp_all
  .rcases List.mem_append.1 he with he|he
   .exact so.ef e he
   .simp at he;subst he
    refine⟨bB,bB,λe=>?_,λ_=>⟨xs.1,?_⟩,ZF,show I6 0 from I6.of aV,show I6 0 from I6.of aV,a3.1,a3.2⟩
    .dsimp only at e |-
     have:=io.snd ah;exact⟨this.1,this.2.1⟩
    .dsimp only
     rcases ho with ho|ho
     .exact(io.snd ho).2.2
     .exact io.aft ho
  .dsimp only
   rw[DP];have:fq x.cZ=0:=aei;rw[this];omega
 refine aq (λh=>?_) (λh=>?_)
 .have h31:=yY h
  have e2:mj x.cZ=1:=by rw[h31];rfl
  refine av (aW (wA (m:={ m with cG:=st,ml:=m.ml+1 }) bB bB tm)) ?_;rintro⟨v,_⟩ ⟨hv,s,rfl,Wq,hs⟩;dsimp only at Wq;exact ay (fin s 2 v hs ah (.inr rfl) hv)
 .have h31:=xj h
  have h30:x.cZ=30:=ah;have e2:mj x.cZ=0:=by rw[h30];rfl
  exact ay (fin st 1 0 tm ah (.inl ⟨rfl,h30⟩) (I6.of aV))
end
section
variable {E:XE} {k i:Nat} {m:aJ} {x:aC}
theorem ahR(a:SZ E k i m x)(ho:x.cZ=32∨x.cZ=33)(hk:k<=10000000):Wp (pz x m) (SP E (k+1)):=by
 have len:=a.len;have so:=a.so;have io:=a.io;have aaK:=a.xW.pop;have hd0:=so.d0;have hdk:=so.dk;have Yx:=so.el;have il:=a.il;have hTo:=(a.e.ci x (List.mem_of_getElem? a.hx)).2;have hto:rZ x=some x.gB:=by unfold rZ;rw[if_neg ah,if_pos ho]
 have e1:fS x=mj x.cZ:=aev;have e0:fq x.cZ=0:=aei;have aNn:=a.xW.amP;have t64:=a.e.t64;have w2:IntKind.wrap .i64 (m.dE+1)=m.dE+1:=wrap_i64 ah ah;unfold pz;refine av (aeQ so.fail) (λv2 _=>?_);rw[w2];refine cX ?_
 -- the end of all ways
 have fin:∀(vars:List Int) (aiQ:List cy) (s:List Int) (nx kd key val:Int) (lI:Int×aJ),lI.1=key->(∀y∈vars,I6 y)->vars.length=E.nv->BS ⟨aiQ⟩->(∀y∈s,I6 y)->(s.length:Int)=(m.cG.length:Int)-fS x->(nx=(i:Int)+1∨nx=x.gB)->(kd=3∨kd=4)->I6 key->I6 val ->
   Wp (jY v2 kd lI (vars,m.aE.bL.dh,aiQ,m.aE.dt,m.aE.jm,m.cM,m.ca.cE,m.ca.Dt,m.ca.aY,m.ca.ez,m.ca.xp,s,nx,m.ml,m.dE+1,m.mm,val)) (SP E (k+1)):=by
  rintro vars aiQ s nx kd key val lI rfl hv Yt hdisk hs DP hnx hkd Wr Ta;refine aX (aK (yk bB aV) (aL (aj ?_)))
  have so':QD E (k+1) (aJ.mk (bZ.mk (aM.mk vars m.aE.bL.dh ⟨aiQ⟩) (m.aE.dt++[⟨kd,0,0,0,lI.1,val,v2.2,[]⟩]) m.aE.jm) m.cM (ew.mk m.ca.cE m.ca.Dt m.ca.aY m.ca.ez m.ca.xp) s nx m.ml (m.dE+1) m.mm):=by
   refine⟨so.code,so.args,so.fl,so.now,so.fail,⟨hv,so.st.t,hdisk⟩,Yt,so.nt,hs,?_,λe he=>?_,so.s0,so.s8,bB,bB⟩
   .simp_all
   .rcases List.mem_append.1 he with he|he
    .exact so.ef e he
    .simp at he;subst he
     exact⟨bB,bB,λe=>by dsimp only at e;omega,λe=>by dsimp only at e;omega,show I6 0 from I6.of aV,Wr,Ta,aR,aR⟩
  rcases hnx with rfl|rfl
  .exact a.norm ah ah so' rfl bB
  .have hb:=hTo _ hto
   refine⟨so',hb.1,hb.2,bB,λ_ my=>?_⟩;have:=a.xW.jump _ hto;dsimp only;rw[this,DP,e0];congr 1;omega
 -- the key has been popped
 have K1:∀(st:List Int) (kd val:Int),(∀y∈st,I6 y)->(st.length:Int)=(m.cG.length:Int)-fS x+1->(kd=3∧x.cZ=32∨kd=4∧x.cZ=33)->I6 val->Wp (jZ x m v2 (m.aE.bL.ez.ba,m.aE.jm,m.cM,m.ca.cE,m.ca.Dt,m.ca.ez,m.ca.xp,st,m.sa,m.ml,m.dE+1,m.mm,kd,val)) (SP E (k+1)):=by
  intro st kd val zb hstl hkd Ta;unfold jZ;refine av (aW (wA (m:={ m with cG:=st,dE:=m.dE+1 }) bB bB zb)) ?_;rintro⟨key,_⟩ ⟨Wr,s,rfl,DP,hs⟩;dsimp only at Wr DP;refine cX (aq (λ_=>ay (fin _ _ s _ kd key val _ rfl so.st.v so.nv so.st.d hs ah (.inr rfl) ah Wr Ta)) (λ_=>aq (λh32=>?_) (λh32=>?_)))
  . -- put
   have al9:Wp (BH key val { m with cG:=s,dE:=m.dE+1 }) λq=>∃dk,q = { m with aE:={ m.aE with bL:={ m.aE.bL with ez:=dk } },cG:=s,dE:=m.dE+1 }∧BS dk:=by
    unfold BH;obtain⟨g,hg,ry⟩:=WR so.st.d Wr Ta;refine aF hg ?_;refine av (P:=λv=>g.2=false->v=(m.aE.bL.ez.ba.length:Int)) (gX (λ_=>aj (λ_=>rfl)) (λh e=>VF)) (λv hv=>?_);refine aq (λh=>?_) (λ_=>aL (aj ⟨_,rfl,so.st.d⟩))
    have:(g.2||(decide ((m.aE.bL.ez.ba.length:Int)<16)))=true:=by
     cases vO:g.2 with
     |true=>rfl
     |false=>rw[vO,hv vO]at h;exact h
    exact av (ry this) (λdk hdk=>aL (aj ⟨dk,rfl,hdk⟩))
   refine av (aW al9) ?_;rintro _ ⟨dk,rfl,hdk⟩;exact ay (fin _ _ s _ kd key val _ rfl so.st.v so.nv hdk hs ah (.inl a.nx) ah Wr Ta)
  .have h33:x.cZ=33:=by have:=xj h32;omega
   have hA:=a.xi.v ah;refine av (Oc so.st.d) (λg hg=>?_);refine fE hA.1 VM (λ_ _ _=>aX (ay (fin _ _ s _ kd key g.1 _ rfl (λy hy=>?_) (by rw[List.length_set];exact so.nv) so.st.d hs ah (.inl a.nx) ah Wr hg)));rcases mem_set hy with hy|rfl
   .exact so.st.v y hy
   .exact hg
 refine aq (λh=>?_) (λh=>?_)
 .have h32:=yY h
  have e2:mj x.cZ=2:=by rw[h32];rfl
  refine av (aW (wA (m:={ m with dE:=m.dE+1 }) bB bB so.Ol)) ?_;rintro⟨v,_⟩ ⟨hv,s,rfl,Wq,hs⟩;dsimp only at Wq hv;exact ay (K1 s 3 v hs ah (.inl ⟨rfl,h32⟩) hv)
 .have h33:x.cZ=33:=by have:=xj h;omega
  have e2:mj x.cZ=1:=by rw[h33];rfl
  exact ay (K1 m.cG 4 0 so.Ol ah (.inr ⟨rfl,h33⟩) (I6.of aV))
theorem QD.am2(h:QD E k m){s:List Int}{ts:List aQ}(hs:∀v∈s,I6 v)(ht:∀t∈ts,BS t)(hl:ts.length=E.nt):QD E k { m with aE:={ m.aE with bL:={ m.aE.bL with dh:=ts } },cG:=s }:=⟨h.code,h.args,h.fl,h.now,h.fail,⟨h.st.v,ht,h.st.d⟩,h.nv,hl,hs,h.el,h.ef,h.s0,h.s8,h.d0,h.dk⟩
theorem abN(a:SZ E k i m x)(ho:x.cZ=6∨x.cZ=7∨x.cZ=8∨x.cZ=25∨x.cZ=26):Wp (oD x.cZ (Int.toNat x.gA) m) (SP E (k+1)):=by
 have len:=a.len;have so:=a.so;have aaK:=a.xW.pop;have e1:fS x=mj x.cZ:=aev;have hA:=a.xi.t ho;have hAn:((Int.toNat x.gA:Nat):Int)=x.gA:=ah;have hAl:x.gA<m.aE.bL.dh.length:=by rw[so.nt];exact hA.2
 unfold oD;rw[hAn];refine aq (λh=>?_) (λh6=>aq (λh=>?_) (λh7=>aq (λh=>?_) (λh8=>aq (λh=>?_) (λh25=>?_))))
 .have e:=yY h
  have r1:mj x.cZ=1:=Cm;have r2:fq x.cZ=1:=Cm;refine fE hA.1 hAl (λt _ t2=>av (aW (wA ah ah so.Ol)) ?_);rintro⟨v,_⟩ ⟨hv,s,rfl,DP,hs⟩;refine av (Oc (so.st.t t t2)) (λg hg=>?_);refine aF adO (aL (aj ?_));refine a.norm ah ah ((so.stack (s:=s++[g.1]) (λu hu=>?_)).up (Nat.le_succ k)) a.nx ?_
  .rcases List.mem_append.1 hu with hu|hu
   .exact hs u hu
   .simp at hu;subst hu;exact hg
  .dsimp only;rw[List.length_append,List.length_singleton];omega
 .have e:=yY h
  have r1:mj x.cZ=1:=Cm;have r2:fq x.cZ=1:=Cm;refine fE hA.1 hAl (λt _ t2=>av (aW (wA ah ah so.Ol)) ?_);rintro⟨v,_⟩ ⟨hv,s,rfl,DP,hs⟩;refine av (Oc (so.st.t t t2)) (λg hg=>av (MU _) (λb hb=>?_));refine aF adO (aL (aj ?_));refine a.norm ah ah ((so.stack (s:=s++[b]) (λu hu=>?_)).up (Nat.le_succ k)) a.nx ?_
  .rcases List.mem_append.1 hu with hu|hu
   .exact hs u hu
   .simp at hu;subst hu;exact hb
  .dsimp only;rw[List.length_append,List.length_singleton];omega
 .have e:=yY h
  have r1:mj x.cZ=0:=Cm;have r2:fq x.cZ=1:=Cm;unfold qW;refine fE hA.1 hAl (λt _ t2=>mC (aj (aF aej (aL (aj ?_)))));exact a.push (I6.of (by have:=(so.st.t t t2).len;omega)) ah r2 ah ah
 .have e:=yY h
  have r1:mj x.cZ=2:=Cm;have r2:fq x.cZ=0:=Cm;refine av (aW (wA ah ah so.Ol)) ?_;rintro⟨v,_⟩ ⟨hv,s,rfl,DP,hs⟩;refine av (aW (wA (m:={ m with cG:=s }) bB bB hs)) ?_;rintro⟨u,_⟩ ⟨hu,s',rfl,Wq,jI⟩;dsimp only at Wq hu hv
  have al9:Wp (zA (Int.toNat x.gA) u v m.aE.bL.dh) λts=>(∀t∈ts,BS t)∧ts.length=E.nt:=by
   unfold zA;rw[hAn];refine fE hA.1 hAl (λt _ t2=>?_);obtain⟨g,hg,ry⟩:=WR (so.st.t t t2) hu hv;refine aF hg ?_;refine av (P:=λv=>g.2=false->v=(t.ba.length:Int)) (gX (λ_=>aj (λ_=>rfl)) (λh e=>VF)) (λw hw=>?_);refine aq (λh=>?_) (λ_=>aL (aj ⟨so.st.t,so.nt⟩))
   have:(g.2||(decide ((t.ba.length:Int)<16)))=true:=by
    cases vO:g.2 with
    |true=>rfl
    |false=>rw[vO,hw vO]at h;exact h
   refine av (ry this) (λq hq=>aX (aL (aj ⟨λy hy=>?_,aee⟩)));rcases mem_set hy with hy|rfl
   .exact so.st.t y hy
   .exact hq
  rw[show Int.toNat x.gA=Int.toNat x.gA from rfl];refine av (aW al9) ?_;rintro ts ⟨ht1,ht2⟩;refine aL (aj (a.norm ah ah ((so.am2 jI ht1 ht2).up (Nat.le_succ k)) a.nx ?_));dsimp only;omega
 .have e:x.cZ=26:=by have:=xj h6;have:=xj h7;have:=xj h8;have:=xj h25;omega
  have r1:mj x.cZ=1:=Cm;have r2:fq x.cZ=0:=Cm;refine aq (λ_=>?_) (λh=>absurd e (xj h));refine fE hA.1 hAl (λt _ t2=>av (aW (wA ah ah so.Ol)) ?_);rintro⟨v,_⟩ ⟨hv,s,rfl,DP,hs⟩;refine av (agH (so.st.t t t2)) (λq hq=>aX (aL (aj (a.norm ah ah ((so.am2 hs (λy hy=>?_) aee).up (Nat.le_succ k)) a.nx ?_))))
  .rcases mem_set hy with hy|rfl
   .exact so.st.t y hy
   .exact hq
  .dsimp only;omega
end
section
variable {E:XE} {k i:Nat} {m:aJ} {x:aC}
theorem agV(a:SZ E k i m x)(hk:k<=10000000):Wp (px x m) (SP E (k+1)):=by
 have len:=a.len;have so:=a.so;have io:=a.io;have xi:=a.xi;have aaK:=a.xW.pop;have il:=a.il
 have p0:∀{o:Int},x.cZ=o->1<=o->o<=5->fS x=0∧fq x.cZ=1:=by
  intro o e h1 h2;unfold fS mj fq;rw[if_neg ah,if_neg ah,if_neg ah,if_pos ah];exact⟨rfl,rfl⟩
 have pp:∀{β:Type} {v:Int} {t:Nat} {l:Rn} {f:aJ->Option β} {Q:β->Prop},Wp (f { m with cG:=m.cG++[v] }) Q->Wp (Bi (cl t l (eV v m)) f) Q:=λh=>aF aej h
 unfold px;refine Wp.dX ?_;refine aq (λh=>?_) (λh1=>?_)
 .have e:=yY h
  obtain⟨q1,q2⟩:=p0 e aV aV;exact pp (aL (aj (a.push (I6.of (by have:=io.n0;have:=io.n1;omega)) q1 q2 ah ah)))
 refine aq (λh=>?_) (λh2=>?_)
 .have e:=yY h
  obtain⟨q1,q2⟩:=p0 e aV aV;have hA:=xi.v (.inl e);exact fE hA.1 VM (λv _ v2=>pp (aL (aj (a.push (so.st.v v v2) q1 q2 ah ah))))
 refine aq (λh=>?_) (λh3=>?_)
 .have e:=yY h
  obtain⟨q1,q2⟩:=p0 e aV aV;have hA:=xi.p e;exact fE hA.1 (by rw[so.args];exact hA.2) (λv _ v2=>pp (aL (aj (a.push (a.e.ai v (by rw[<-so.args];exact v2)) q1 q2 ah ah))))
 refine aq (λh=>?_) (λh4=>?_)
 .have e:=yY h
  obtain⟨q1,q2⟩:=p0 e aV aV;have hA:=xi.f e;exact fE hA.1 (by rw[so.fl];exact hA.2) (λv _ v2=>av (MU v) (λb hb=>pp (aL (aj (a.push hb q1 q2 ah ah)))))
 refine aq (λh=>?_) (λh5=>?_)
 .have e:=yY h
  obtain⟨q1,q2⟩:=p0 e aV aV;exact pp (aL (aj (a.push so.now q1 q2 ah ah)))
 have e1:=xj h1;have e2:=xj h2;have e3:=xj h3;have e4:=xj h4;have e5:=xj h5;have o1:=io.op0;have o34:=io.op1
 -- two numbers,or tables
 have K4:∀b:Bool,b=decide (x.cZ=6∨x.cZ=7∨x.cZ=8∨x.cZ=25∨x.cZ=26)->(11<=x.cZ∧x.cZ<=23∨x.cZ=6∨x.cZ=7∨x.cZ=8∨x.cZ=25∨x.cZ=26)->Wp (gV x m b) (SP E (k+1)):=by
  intro b hb ho;refine aq (λh=>?_) (λh=>?_)
  .rw[h]at hb
   have ht:x.cZ=6∨x.cZ=7∨x.cZ=8∨x.cZ=25∨x.cZ=26:=of_decide_eq_true hb.symm;have hA:=xi.t ht;exact fE hA.1 (by rw[so.nt];exact hA.2) (λ_ _ _=>av (aW (abN a ht)) (λq hq=>aL (aj hq)))
  .rw[h]at hb
   have ht:¬(x.cZ=6∨x.cZ=7∨x.cZ=8∨x.cZ=25∨x.cZ=26):=of_decide_eq_false hb.symm
   have hr:fS x=2∧fq x.cZ=1:=by
    unfold fS mj fq;rw[if_neg ah,if_pos ah,if_neg ah,if_pos ah];exact⟨rfl,rfl⟩
   refine av (aW (wA ah ah so.Ol)) ?_;rintro⟨v,_⟩ ⟨hv,s,rfl,DP,hs⟩;refine av (aW (wA (m:={ m with cG:=s }) bB bB hs)) ?_;rintro⟨u,_⟩ ⟨hu,s',rfl,Wq,jI⟩;dsimp only at Wq hu hv;refine av (aah hu) (λq hq=>?_);refine aF (by unfold cl;exact OI (m:={ m with cG:=s' }) bB) (aL (aj ?_));refine a.norm ah ah ((so.stack (s:=s'++[q.1]) (λy hy=>?_)).up (Nat.le_succ k)) a.nx ?_
   .rcases List.mem_append.1 hy with hy|hy
    .exact jI y hy
    .simp at hy;subst hy;exact hq
   .dsimp only;rw[List.length_append,List.length_singleton];omega
 have K3:∀b:Bool,b=decide (x.cZ=32∨x.cZ=33)->x.cZ≠9->x.cZ≠10->x.cZ≠24->x.cZ≠27->x.cZ≠28->x.cZ≠29->x.cZ≠30->x.cZ≠31->Wp (mU x m b) (SP E (k+1)):=by
  intro b hb n9 n10 n24 n27 n28 n29 n30 n31;refine aq (λh=>?_) (λh=>?_)
  .rw[h]at hb
   exact av (aW (ahR a (of_decide_eq_true hb.symm) hk)) (λq hq=>aL (aj hq))
  .rw[h]at hb
   have hnd:¬(x.cZ=32∨x.cZ=33):=of_decide_eq_false hb.symm;refine aq (λh34=>aL (aj ?_)) (λh34=>cX ?_)
   .refine⟨(⟨so.code,so.args,so.fl,so.now,so.fail,so.st,so.nv,so.nt,so.Ol,so.el,so.ef,so.s0,so.s8,so.d0,so.dk⟩:QD E k { m with sa:=(m.cM.length:Int) }).up (Nat.le_succ k),bB,by dsimp only;rw[so.code];omega,bB,λ_ my=>?_⟩
    dsimp only at my;rw[so.code]at my;omega
   .have n34:=xj h34
    refine aq (λh=>ay (K4 _ ?_ ?_)) (λh6=>aq (λh=>ay (K4 _ ?_ ?_)) (λh7=>aq (λh=>ay (K4 _ ?_ ?_)) (λh8=>aq (λh=>ay (K4 _ ?_ ?_)) (λh25=>ay (K4 _ ?_ ?_)))))
    .have:=yY h;rw[h,decide_eq_true ah]
    .have:=yY h;omega
    .have:=yY h;rw[h,decide_eq_true ah]
    .have:=yY h;omega
    .have:=yY h;rw[h,decide_eq_true ah]
    .have:=yY h;omega
    .have:=yY h;rw[h,decide_eq_true ah]
    .have:=yY h;omega
    .have:=xj h6;have:=xj h7;have:=xj h8;have:=xj h25
     show decide (x.cZ=26)=_;exact decide_eq_decide.2 ⟨λ_=>ah,λ_=>ah⟩
    .have:=xj h6;have:=xj h7;have:=xj h8;have:=xj h25;omega
 have K2:∀b:Bool,b=decide (x.cZ=30∨x.cZ=31)->x.cZ≠9->x.cZ≠10->x.cZ≠24->x.cZ≠27->x.cZ≠28->x.cZ≠29->Wp (mV x m b) (SP E (k+1)):=by
  intro b hb n9 n10 n24 n27 n28 n29;refine aq (λh=>?_) (λh=>?_)
  .rw[h]at hb
   exact av (aW (agY a (of_decide_eq_true hb.symm) hk)) (λq hq=>aL (aj hq))
  .rw[h]at hb
   have hns:¬(x.cZ=30∨x.cZ=31):=of_decide_eq_false hb.symm;refine cX (aq (λh=>ay (K3 _ ?_ n9 n10 n24 n27 n28 n29 ah ah)) (λh=>ay (K3 _ ?_ n9 n10 n24 n27 n28 n29 ah ah)))
   .have:=yY h;rw[h,decide_eq_true ah]
   .have:=xj h
    show decide (x.cZ=33)=_;exact decide_eq_decide.2 ⟨λ_=>ah,λ_=>ah⟩
 have K1:∀b:Bool,b=decide (x.cZ=9∨x.cZ=10)->Wp (mW x m b) (SP E (k+1)):=by
  intro b hb;refine aq (λh=>?_) (λh=>?_)
  .rw[h]at hb
   have ho:x.cZ=9∨x.cZ=10:=of_decide_eq_true hb.symm
   have hr:fS x=1∧fq x.cZ=1:=by
    unfold fS mj fq;rw[if_pos ah,if_neg ah,if_pos ah];exact⟨rfl,rfl⟩
   refine av (aW (wA ah ah so.Ol)) ?_;rintro⟨v,_⟩ ⟨hv,s,rfl,DP,hs⟩;refine av abG (λq hq=>?_);refine aF adO (aL (aj ?_));refine a.norm ah ah ((so.stack (s:=s++[q.1]) (λy hy=>?_)).up (Nat.le_succ k)) a.nx ?_
   .rcases List.mem_append.1 hy with hy|hy
    .exact hs y hy
    .simp at hy;subst hy;exact hq
   .dsimp only;rw[List.length_append,List.length_singleton];omega
  .rw[h]at hb
   have hn:¬(x.cZ=9∨x.cZ=10):=of_decide_eq_false hb.symm;refine aq (λh=>?_) (λh24=>?_)
   .have e:=yY h
    have hr:fS x=1∧fq x.cZ=0:=by
     unfold fS mj fq;rw[if_pos ah,if_neg ah,if_neg ah];exact⟨rfl,rfl⟩
    have hA:=xi.v (.inr (.inl e));refine av (aW (wA ah ah so.Ol)) ?_;rintro⟨v,_⟩ ⟨hv,s,rfl,DP,hs⟩;refine fE hA.1 VM (λ_ _ _=>aX (aL (aj (a.norm ah ah ?_ a.nx ?_))))
    .refine⟨so.code,so.args,so.fl,so.now,so.fail,⟨λy hy=>?_,so.st.t,so.st.d⟩,by dsimp only;rw[List.length_set];exact so.nv,so.nt,hs,Nat.le_succ_of_le so.el,so.ef,so.s0,so.s8,so.d0,VU⟩
     rcases mem_set hy with hy|rfl
     .exact so.st.v y hy
     .exact hv
    .dsimp only;omega
   refine aq (λh=>aL (aj ?_)) (λh27=>?_)
   .have e:=yY h
    have hto:rZ x=some x.gA:=aeg;have hb:=(a.e.ci x (List.mem_of_getElem? a.hx)).2 _ hto
    have hr:fS x=0∧fq x.cZ=0:=by
     unfold fS mj fq;rw[if_neg ah,if_neg ah,if_neg ah,if_neg ah];exact⟨rfl,rfl⟩
    refine⟨(⟨so.code,so.args,so.fl,so.now,so.fail,so.st,so.nv,so.nt,so.Ol,so.el,so.ef,so.s0,so.s8,so.d0,so.dk⟩:QD E k { m with sa:=x.gA }).up (Nat.le_succ k),hb.1,hb.2,bB,λ_ _=>?_⟩;have:=a.xW.jump _ hto;dsimp only;rw[this,hr.1,hr.2];congr 1 <;> omega
   refine aq (λh=>?_) (λh28=>?_)
   .have e:=yY h
    have hto:rZ x=some x.gA:=aeg;have hb:=(a.e.ci x (List.mem_of_getElem? a.hx)).2 _ hto
    have hr:fS x=1∧fq x.cZ=0:=by
     unfold fS mj fq;rw[if_pos ah,if_neg ah,if_neg ah];exact⟨rfl,rfl⟩
    refine av (aW (wA ah ah so.Ol)) ?_;rintro⟨v,_⟩ ⟨hv,s,rfl,DP,hs⟩;refine aq (λ_=>aL (aj ?_)) (λ_=>aL (aj (a.norm ah ah ((so.stack hs).up (Nat.le_succ k)) a.nx bB)));refine⟨(⟨so.code,so.args,so.fl,so.now,so.fail,so.st,so.nv,so.nt,hs,so.el,so.ef,so.s0,so.s8,so.d0,so.dk⟩:QD E k { m with cG:=s,sa:=x.gA }).up (Nat.le_succ k),hb.1,hb.2,bB,λ_ _=>?_⟩;have:=a.xW.jump _ hto;dsimp only;rw[this,hr.1,hr.2];congr 1 <;> omega
   refine aq (λh=>aL (aj ?_)) (λh29=>?_)
   .have e:=yY h
    have hr:fS x=0∧fq x.cZ=0:=by
     unfold fS mj fq;rw[if_neg ah,if_neg ah,if_neg ah,if_neg ah];exact⟨rfl,rfl⟩
    exact a.norm ah ah ⟨so.code,so.args,so.fl,so.now,so.fail,so.st,so.nv,so.nt,so.Ol,Nat.le_succ_of_le so.el,so.ef,so.s0,so.s8,so.d0,VU⟩ a.nx bB
   have n24:=xj h24;have n27:=xj h27;have n28:=xj h28;have n29:=xj h29;refine cX (aq (λh=>ay (K2 _ ?_ ah ah n24 n27 n28 n29)) (λh=>ay (K2 _ ?_ ah ah n24 n27 n28 n29)))
   .have:=yY h;rw[h,decide_eq_true ah]
   .have:=xj h
    show decide (x.cZ=31)=_;exact decide_eq_decide.2 ⟨λ_=>ah,λ_=>ah⟩
 refine cX (aq (λh=>ay (K1 _ ?_)) (λh=>ay (K1 _ ?_)))
 .have:=yY h;rw[h,decide_eq_true ah]
 .have:=xj h
  show decide (x.cZ=10)=_;exact decide_eq_decide.2 ⟨λ_=>ah,λ_=>ah⟩
end
abbrev mkX(s:Int×List Int×List aQ×List cy×List cw×Int×List aC×List Int×Int×List Bool×Int×List Int×List Int×Int×Int×Int×Bool):aJ:=aJ.mk (bZ.mk (aM.mk s.2.1 s.2.2.1 (aQ.mk s.2.2.2.1)) s.2.2.2.2.1 s.2.2.2.2.2.1) s.2.2.2.2.2.2.1 (ew.mk s.2.2.2.2.2.2.2.1 s.2.2.2.2.2.2.2.2.1 s.2.2.2.2.2.2.2.2.2.1 s.2.2.2.2.2.2.2.2.2.2.1 s.2.2.2.2.2.2.2.2.2.2.2.1) s.2.2.2.2.2.2.2.2.2.2.2.2.1 s.2.2.2.2.2.2.2.2.2.2.2.2.2.1 s.2.2.2.2.2.2.2.2.2.2.2.2.2.2.1 s.2.2.2.2.2.2.2.2.2.2.2.2.2.2.2.1 s.2.2.2.2.2.2.2.2.2.2.2.2.2.2.2.2
section
variable {E:XE}
structure RP(E:XE)(m:aJ):Prop where
 st:ae9 m.aE.bL
 el:m.aE.dt.length<=1048580
 ef:∀e∈m.aE.dt,aiz E.N e
 fl:m.ca.aY=E.fl
 nv:m.aE.bL.eG.length=E.nv
 nt:m.aE.bL.dh.length=E.nt
theorem ahq(hE:ak5 E){m:aJ}(h:SP E 0 m)(hf:m.mm=false):Wp (qR m) (RP E):=by
 unfold qR;refine jR (λs=>0<=s.1∧s.1<=1048576∧SP E s.1.toNat (mkX s)∧(mkX s).mm=false) (λs=>(1048577-s.1).toNat) ⟨Int.le_refl _,fF,h,hf⟩ fF ?_;rintro⟨st,vs,ts,dk,ef,co,cs,ar,nw,fl,cd,fa,sk,nx,sn,ds,ft⟩ ⟨s0,s1,hs,hft⟩;dsimp only at s0 s1;have afs:cs=E.cs:=hs.so.code;have awK:0<=nx:=hs.n0;obtain rfl:ft=false:=hft;refine aq (λhb=>?_) (λhb=>aj (aL (aj ?_)))
 .have my:nx<(cs.length:Int):=by simpa using hb
  dsimp only
  -- the end of a step
  have fin:∀m':aJ,SP E (st.toNat+1) m'->(m'.mm=false->st<1048576)->Wp (nT st (m'.aE.bL.eG,m'.aE.bL.dh,m'.aE.bL.ez.ba,m'.aE.dt,m'.aE.jm,m'.cM,m'.ca.cE,m'.ca.Dt,m'.ca.aY,m'.ca.ez,m'.ca.xp,m'.cG,m'.sa,m'.ml,m'.dE,m'.mm))
    (Rdn (λs=>(0<=s.1∧s.1<=1048576∧SP E s.1.toNat (mkX s)∧(mkX s).mm=false)∧(1048577-s.1).toNat<(1048577-st).toNat) λe=>Wp (match e with
     |.inl e42=>rX [(5000,1001),(5001,1002)] (some (aJ.mk (bZ.mk (aM.mk e42.1 e42.2.1 (aQ.mk e42.2.2.1)) e42.2.2.2.1 e42.2.2.2.2.1) e42.2.2.2.2.2.1 (ew.mk e42.2.2.2.2.2.2.1 e42.2.2.2.2.2.2.2.1 e42.2.2.2.2.2.2.2.2.1 e42.2.2.2.2.2.2.2.2.2.1 e42.2.2.2.2.2.2.2.2.2.2.1) e42.2.2.2.2.2.2.2.2.2.2.2.1 e42.2.2.2.2.2.2.2.2.2.2.2.2.1 e42.2.2.2.2.2.2.2.2.2.2.2.2.2.1 e42.2.2.2.2.2.2.2.2.2.2.2.2.2.2.1 e42.2.2.2.2.2.2.2.2.2.2.2.2.2.2.2))
     |.inr r=>some r) (RP E)):=by
   intro m' QH zb;have Yx:=QH.so.el;refine aq (λh=>?_) (λh=>?_)
   .refine aX (aK (yk bB aV) (aL (aj (aj ⟨QH.so.st,?_,λe he=>?_,QH.so.fl,QH.so.nv,QH.so.nt⟩))))
    .dsimp only;rw[List.length_append,List.length_singleton];omega
    .rcases List.mem_append.1 he with he|he
     .exact QH.so.ef e he
     .simp at he;subst he
      exact⟨aV,aV,λe=>ED,λe=>ED,show I6 0 from I6.of aV,show I6 0 from I6.of aV,show I6 0 from I6.of aV,aR,aR⟩
   .have h':m'.mm=false:=h
    have:=zb h';rw[wrap_i64 (n:=st+1) ah ah];refine ay (aj ⟨⟨bB,bB,?_,h'⟩,bB⟩);have e:(st+1).toNat=st.toNat+1:=ah;dsimp only;rw[e];exact QH
  refine cX (aq (λh=>ay ?_) (λh=>?_))
  .have jI:SP E (st.toNat+1) (mkX (st,vs,ts,dk,ef,co,cs,ar,nw,fl,cd,fa,sk,nx,sn,ds,true)) :=
    ⟨(⟨hs.so.code,hs.so.args,hs.so.fl,hs.so.now,hs.so.fail,hs.so.st,hs.so.nv,hs.so.nt,hs.so.Ol,hs.so.el,hs.so.ef,hs.so.s0,hs.so.s8,hs.so.d0,hs.so.dk⟩:QD E st.toNat (mkX (st,vs,ts,dk,ef,co,cs,ar,nw,fl,cd,fa,sk,nx,sn,ds,true))).up (Nat.le_succ _),hs.n0,hs.n1,hs.sl,λh=>dI⟩
   exact fin _ jI (λh=>dI)
  .have zb:=xj h
   obtain⟨x,x1,x2,x3⟩:=la (xs:=cs) awK my;rw[wrap_i64 (n:=nx+1) aji aji];refine aF x1 ?_;have hx:E.cs[nx.toNat]? = some x:=by rw[<-afs];exact x2
   have Wi:nx<(E.cs.length:Int):=by rw[<-afs];exact my
   obtain⟨hh,xW⟩:=hE.hs nx.toNat x ah hx;have hH:=hs.ht rfl Wi
   have:hh=(sk.length:Int):=by
    have:=xW.at_;have e:E.H[nx.toNat]? = some (sk.length:Int):=hH;rw[e]at this;exact(Option.some.inj this).symm
   subst this
   have KH:SZ E st.toNat nx.toNat (mkX (st,vs,ts,dk,ef,co,cs,ar,nw,fl,cd,fa,sk,nx+1,sn,ds,false)) x :=
    ⟨hE,⟨hs.so.code,hs.so.args,hs.so.fl,hs.so.now,hs.so.fail,hs.so.st,hs.so.nv,hs.so.nt,hs.so.Ol,hs.so.el,hs.so.ef,hs.so.s0,hs.so.s8,hs.so.d0,hs.so.dk⟩,hx,by dsimp only[mkX];omega,xW,rfl⟩
   exact av (aW (agV KH ah)) (λm' QH=>ay (fin m' QH (λ_=>ah)))
 .exact⟨hs.so.st,by have:=hs.so.el;dsimp only[mkX]at this |-;omega,hs.so.ef,hs.so.fl,hs.so.nv,hs.so.nt⟩
end
theorem NX{o:Int}{c:Int}(h0:0<=o)(h1:o<=34):Ji (tw o c):=by
 unfold tw vi kZ;exact av (acb h0 h1) (λr _=>mC (mC (aj (aj (aj trivial)))))
structure Fm(u:cL)(x:aC):Prop where
 p:x.cZ=3->0<=x.gA∧x.gA<u.dY
 s:x.cZ=30∨x.cZ=31->0<=x.gB∧0<=x.gN∧x.gN<=4
 a:x.cZ≠27->x.cZ≠28->x.cZ≠32->x.cZ≠3->0<=x.gA
theorem acV{u:cL}{x:aC}(h0:1<=x.cZ)(h1:x.cZ<=34):Wp (tv u x) λb=>b=true->Fm u x:=by
 have no:Wp (some false) λb=>b=true->Fm u x:=aj (λh=>dI)
 have K1:x.cZ≠3->(x.cZ=30∨x.cZ=31->0<=x.gB∧0<=x.gN∧x.gN<=4)->Wp (pB x ()) λb=>b=true->Fm u x:=λh3 hs=>aj (λh=>by
  rw[Bool.and_eq_true,decide_eq_true_eq,decide_eq_true_eq]at h;exact⟨λe=>absurd e h3,hs,λ_ _ _ _=>h.1⟩)
 have K3:∀b:Bool,b=decide (x.cZ=30∨x.cZ=31)->x.cZ≠3->Wp (pA x b) λb=>b=true->Fm u x:=by
  intro b hb h3;refine aq (λh=>aq (λ_=>no) (λhn=>ay (K1 h3 (λ_=>?_)))) (λh=>ay (K1 h3 (λe=>?_)))
  .simp only[Bool.or_eq_false_iff,decide_eq_false_iff_not]at hn
   omega
  .rw[h]at hb;exact absurd e (of_decide_eq_false hb.symm)
 have K2:∀b:Bool,b=decide (x.cZ=27∨x.cZ=28∨x.cZ=32)->Wp (mw u x b) λb=>b=true->Fm u x:=by
  intro b hb;refine aq (λh=>aj (λ_=>?_)) (λh=>aq (λh3=>aj (λe=>?_)) (λh3=>cX ?_))
  .rw[h]at hb
   have:=of_decide_eq_true hb.symm;exact⟨λe=>ah,λe=>ah,λ_ _ _ _=>ah⟩
  .have:=yY h3
   rw[Bool.and_eq_true,decide_eq_true_eq,decide_eq_true_eq]at e;exact⟨λ_=>e,λ_=>ah,λ_ _ _ _=>ah⟩
  .have n3:=xj h3
   refine aq (λh=>ay (K3 _ ?_ n3)) (λh=>ay (K3 _ ?_ n3))
   .have:=yY h;rw[h,decide_eq_true ah]
   .have:=xj h
    show decide (x.cZ=31)=_;exact decide_eq_decide.2 ⟨λ_=>ah,λ_=>ah⟩
 unfold tv;refine aq (λh=>no) (λ_=>?_);refine av (NX ah h1) (λv _=>?_);refine av (P:=λ_=>True) (gX (λ_=>NX ah h1) (λ_=>trivial)) (λw _=>?_);refine av (P:=λ_=>True) (gX (λ_=>NX ah h1) (λ_=>trivial)) (λz _=>?_);refine aq (λh=>no) (λ_=>av GS (λt _=>aq (λh=>no) (λ_=>cX (cX ?_))));refine aq (λh=>ay (K2 _ ?_)) (λh27=>aq (λh=>ay (K2 _ ?_)) (λh28=>ay (K2 _ ?_)))
 .have:=yY h;rw[h,decide_eq_true ah]
 .have:=yY h;rw[h,decide_eq_true ah]
 .have:=xj h27;have:=xj h28
  show decide (x.cZ=32)=_;exact decide_eq_decide.2 ⟨λ_=>ah,λ_=>ah⟩
structure Vf(u:cL):Prop where
 fm:∀x∈u.ri,Fm u x
 cl:u.ri.length<=4000
 hh:∃(H:List Int) (top:Int),H.length=u.ri.length+1∧HS u.ri H top u.ri.length∧(0<u.ri.length->H[0]? = some 0)∧top<=64
theorem YI{N:Nat}{u:cL}(h:TY N u):Wp (zC u) λv=>v=0->Vf u:=by
 have hl:=h.len;unfold zC;refine aq (λ_=>aj (λh=>dI)) (λh1=>aq (λ_=>aj (λh=>dI)) (λh2=>?_));simp only[Bool.or_eq_false_iff,decide_eq_false_iff_not]at h1 h2;refine eS (λj _=>∀(k:Nat) (x:aC),k<j->u.ri[k]? = some x->Fm u x) gx (λk x h=>ah) ?_ ?_
 .intro j _ hj hI
  refine bO hj (λx x1 x2=>?_);have io:=(h.ci x x2).1;refine av (acV io.op0 io.op1) (λb hb=>aq (λ_=>aj (aj (λh=>dI))) (λhn=>ay (aj (λk y hk hy=>?_))));have ND:b=true:=by simpa using hn
  rcases Nat.lt_or_ge k j with my|hge
  .exact hI k y my hy
  .obtain rfl:k=j:=by omega
   rw[x1]at hy;obtain rfl:=Option.some.inj hy;exact hb ND
 .intro _ hI
  rw[Int.toNat_natCast]at hI;refine av (Ka h.ci ah) (λv hv=>aq (λ_=>aj (λh=>dI)) (λhn=>aj (λ_=>?_)));simp only[Bool.or_eq_false_iff,Bool.not_eq_false',bne_eq_false_iff_eq]at hn;obtain⟨H,q1,q2,q3,_⟩:=hv hn.1;refine⟨λx hx=>?_,ah,H,v.1,q1,q2,q3,ah⟩;obtain⟨k,hk,rfl⟩:=List.getElem_of_mem hx;exact hI k _ hk (List.getElem?_eq_getElem hk)
theorem Zg{x:aC}{s:aM}{a:List Int}{n d:Int}{f:List Int}{fl:List Bool}:Wp (wY x s a n d f fl) λb=>b=true->(x.cZ=2∨x.cZ=24∨x.cZ=33->x.gA<s.eG.length)∧(x.cZ=4->x.gA<fl.length)∧(x.cZ=6∨x.cZ=7∨x.cZ=8∨x.cZ=25∨x.cZ=26->x.gA<s.dh.length):=by
 have K3:∀b:Bool,b=decide (x.cZ=6∨x.cZ=7∨x.cZ=8∨x.cZ=25∨x.cZ=26)->¬(x.cZ=2∨x.cZ=24∨x.cZ=33)->x.cZ≠4->Wp (lf x s b) λb=>b=true->(x.cZ=2∨x.cZ=24∨x.cZ=33->x.gA<s.eG.length)∧(x.cZ=4->x.gA<fl.length)∧(x.cZ=6∨x.cZ=7∨x.cZ=8∨x.cZ=25∨x.cZ=26->x.gA<s.dh.length):=by
  intro b hb n2 n4;refine aq (λh=>aL (aj (λe=>⟨λe=>absurd e n2,λe=>absurd e n4,λ_=>Px⟩))) (λh=>ay (aL (aj (λ_=>⟨λe=>absurd e n2,λe=>absurd e n4,λe=>?_⟩))));rw[h]at hb;exact absurd e (of_decide_eq_false hb.symm)
 have K2:∀b:Bool,b=decide (x.cZ=2∨x.cZ=24∨x.cZ=33)->Wp (pY x s fl b) λb=>b=true->(x.cZ=2∨x.cZ=24∨x.cZ=33->x.gA<s.eG.length)∧(x.cZ=4->x.gA<fl.length)∧(x.cZ=6∨x.cZ=7∨x.cZ=8∨x.cZ=25∨x.cZ=26->x.gA<s.dh.length):=by
  intro b hb;refine aq (λh=>aL (aj (λe=>?_))) (λh=>aq (λh4=>aL (aj (λe=>?_))) (λh4=>cX ?_))
  .rw[h]at hb
   have:=of_decide_eq_true hb.symm;exact⟨λ_=>Px,λ_=>ah,λ_=>ah⟩
  .have:=yY h4
   exact⟨λ_=>ah,λ_=>Px,λ_=>ah⟩
  .have n4:=xj h4
   rw[h]at hb;have n2:¬(x.cZ=2∨x.cZ=24∨x.cZ=33):=of_decide_eq_false hb.symm;refine aq (λh=>ay (K3 _ ?_ n2 n4)) (λh6=>aq (λh=>ay (K3 _ ?_ n2 n4)) (λh7=>aq (λh=>ay (K3 _ ?_ n2 n4)) (λh8=>aq (λh=>ay (K3 _ ?_ n2 n4)) (λh25=>ay (K3 _ ?_ n2 n4)))))
   .have:=yY h;rw[h,decide_eq_true ah]
   .have:=yY h;rw[h,decide_eq_true ah]
   .have:=yY h;rw[h,decide_eq_true ah]
   .have:=yY h;rw[h,decide_eq_true ah]
   .have:=xj h6;have:=xj h7;have:=xj h8;have:=xj h25
    show decide (x.cZ=26)=_;exact decide_eq_decide.2 ⟨λ_=>ah,λ_=>ah⟩
 unfold wY;refine cX (cX (aq (λh=>ay (K2 _ ?_)) (λh2=>aq (λh=>ay (K2 _ ?_)) (λh24=>ay (K2 _ ?_)))))
 .have:=yY h;rw[h,decide_eq_true ah]
 .have:=yY h;rw[h,decide_eq_true ah]
 .have:=xj h2;have:=xj h24
  show decide (x.cZ=33)=_;exact decide_eq_decide.2 ⟨λ_=>ah,λ_=>ah⟩
theorem ab2{l:List Int}(hl:l.length<=12):Wp (nM l) λr=>r.length=l.length:=by
 unfold nM;refine av (PS _) (λv _=>av (P:=λr=>r.length=l.length) (aW ?_) (λr h=>aL (aj h)));unfold mJ;refine NT (aq (λ_=>av (P:=λr=>r.length=l.length) (aW ?_) (λr h=>aL (aj h))) (λh=>?_))
 .unfold jL
  refine jR (λs=>s.1.length=l.length∧1<=s.2∧s.2<=100) (λs=>(100-s.2).toNat) ⟨rfl,fF,fF⟩ fF ?_;rintro⟨s,i⟩ ⟨s1,i1,i2⟩;dsimp only at s1 i1 i2 |-;refine aq (λhb=>?_) (λ_=>aj (aL (aj s1)));have hi:i<(l.length:Int):=DD;refine jR (λt=>t.1.length=l.length∧0<=t.2∧t.2<=i) (λt=>t.2.toNat) ⟨s1,bB,bB⟩ bB ?_;rintro⟨t,j⟩ ⟨t1,j0,j1⟩;dsimp only at t1 j0 j1 |-;rw[wrap_i64 (n:=j-1) ah ah];refine av (P:=λ_=>True) (gX (λh=>CW j0 ah (λ_ _ _=>trivial)) (λ_=>trivial)) (λa _=>?_);refine av (P:=λ_=>True) (gX (λh=>CW aeJ ah (λ_ _ _=>trivial)) (λ_=>trivial)) (λb _=>?_);refine av (P:=λ_=>True) (gX (λ_=>RI _ _) (λ_=>trivial)) (λc _=>?_);refine aq (λh=>?_) (λ_=>aj (ay (aj ⟨⟨t1,?_,?_⟩,?_⟩)))
  .have hj:0<j:=by rw[Bool.and_eq_true]at h;exact of_decide_eq_true h.1
   refine fE ah ah (λ_ _ _=>fE j0 ah (λ_ _ _=>aX (fE ah Np (λ_ _ _=>aX (ay (aj ⟨⟨by dsimp only;rw[List.length_set,List.length_set];exact t1,bB,bB⟩,bB⟩))))))
  all_goals (dsimp only;rw[wrap_i64 ah ah];omega)
 .rw[wrap_i64 ah ah]at h
  simp at h;omega
structure XR(N:Nat)(fl:List Bool)(r:bZ×Int×List Bool):Prop where
 fl:r.2.2=fl
 st:r.2.1=0->ae9 r.1.bL
 el:r.2.1=0->r.1.dt.length<=1048580
 ef:r.2.1=0->∀e∈r.1.dt,aiz N e
theorem aiy{N:Nat}{u:cL}{s:aM}{a:List Int}{n d:Int}{f:List Int}{fl:List Bool}(hu:TY N u)(hs:ae9 s)(ha:∀x∈a,I6 x)(hn:I6 n)(hf:f.length<=12)(hv:s.eG.length<=1000)(ht:s.dh.length<=1000):Wp (BI u s a n d f fl) λr=>XR N fl r∧(r.2.1=0->r.1.bL.eG.length=s.eG.length∧r.1.bL.dh.length=s.dh.length):=by
 have bad:∀{e:Int},e≠0->XR N fl ((bZ.mk (aM.mk [] [] (aQ.mk [])) [] 0),e,fl)∧(((bZ.mk (aM.mk [] [] (aQ.mk [])) [] 0),e,fl).2.1=0->((bZ.mk (aM.mk [] [] (aQ.mk [])) [] 0),e,fl).1.bL.eG.length=s.eG.length∧((bZ.mk (aM.mk [] [] (aQ.mk [])) [] 0),e,fl).1.bL.dh.length=s.dh.length):=λh=>⟨⟨rfl,λe=>absurd e h,λe=>absurd e h,λe=>absurd e h⟩,λe=>absurd e h⟩
 have hul:=hu.len;unfold BI;refine av (YI hu) (λv QI=>aq (λh=>aL (aj (bad DB))) (λh0=>?_));obtain⟨fm,cl4,H,top,q1,q2,q3,q4⟩:=QI (by simpa using h0);refine aq (λ_=>aL (aj (bad aV))) (λhp=>?_);have hpl:(a.length:Int)=u.dY:=Vv;refine eS (λj _=>∀(k:Nat) (x:aC),k<j->u.ri[k]? = some x->XIn s.eG.length a.length fl.length s.dh.length x) gx (λk x h=>ah) ?_ ?_
 .intro j _ hj hI
  refine bO hj (λx x1 x2=>?_);refine av (aW Zg) (λb hb=>aq (λ_=>aL (aj (aj (bad aV)))) (λhn=>ay (aj (λk y hk hy=>?_))));obtain⟨g1,g2,g3⟩:=hb (by simpa using hn);have hfm:=fm x x2;rcases Nat.lt_or_ge k j with my|hge
  .exact hI k y my hy
  .obtain rfl:k=j:=by omega
   rw[x1]at hy;obtain rfl:=Option.some.inj hy;refine⟨λe=>⟨hfm.a ah ah ah ah,g1 e⟩,λe=>?_,λe=>⟨hfm.a ah ah ah ah,g2 e⟩,λe=>⟨hfm.a ah ah ah ah,g3 e⟩,hfm.s⟩;have:=hfm.p e;omega
 .intro _ hI
  rw[Int.toNat_natCast]at hI
  have cI:∀{l:List Int},l.length<=1000->hD l=some l:=λh=>by
   unfold hD;rw[tA (Iu iC aV)];simp
  have cT:∀{l:List aQ},l.length<=1000->eU l=some l:=λh=>by
   unfold eU;rw[tA (Iu iC aV)];simp
  have cN:jx f=some f:=by
   unfold jx;rw[tA (Iu iC aV)];simp
  refine cV (aF (by unfold cl;exact cN) (av (aW (ab2 hf)) (λsf hsf=>aF (by unfold cl;exact cI hv) (aF (by unfold cl;exact cT ht) (cV ?_)))))
  let E:XE:=⟨u.ri,H,top,N,s.eG.length,s.dh.length,a,fl⟩
  have hE:ak5 E:=⟨q2,q1,q4,cl4,hu.ci,λx hx=>by
   obtain⟨k,hk,rfl⟩:=List.getElem_of_mem hx;exact hI k _ hk (List.getElem?_eq_getElem hk),ha⟩
  have h0:SP E 0 (aJ.mk (bZ.mk (aM.mk s.eG s.dh s.ez) ([]:List cw) 0) u.ri (ew.mk a n fl d sf) ([]:List Int) 0 0 0 false):=by
   refine⟨⟨rfl,rfl,rfl,hn,bB,hs,rfl,rfl,aR,aR,aR,Int.le_refl _,fF,Int.le_refl _,fF⟩,Int.le_refl _,bB,aR,λ_ my=>?_⟩;dsimp only at my |-;exact q3 (by have:(0:Int)<(u.ri.length:Int):=my;omega)
  refine av (aW (ahq hE h0 rfl)) (λm' QH=>cV (aL (aj ⟨⟨QH.fl,λ_=>QH.st,λ_=>QH.el,λ_=>QH.ef⟩,λ_=>⟨QH.nv,QH.nt⟩⟩)))
theorem apB{k n:Nat}(h:n<=100000000000)(hk:k<=1000):dK k n:=by
 have:=Nat.mul_le_mul h hk;unfold dK;omega
theorem gq{n:Nat}(h:n<=9223372036854775807):(n:Int)<=m64:=nV
abbrev fN(F:cR):Nat:=F.oW.aG.length
section
variable {F:cR} {i j:Int}
theorem Ak.n1(h:Ak F):1<=fN F:=by obtain⟨gw,h⟩:=h.tree;exact h.n1
theorem Ak.n3(h:Ak F):fN F<=3:=by obtain⟨gw,h⟩:=h.tree;exact h.n3
theorem Ak.f2(h:Ak F):F.oW.aY.length<=2:=by obtain⟨gw,h⟩:=h.tree;exact h.f2
theorem Fcs:fj F=some (fN F:Int):=rfl
theorem Ffs:oC F=some (F.oW.aY.length:Int):=rfl
theorem Jf(h0:0<=i)(h1:i<(fN F:Int)):Wp (jg F i) λx=>F.oW.aG[i.toNat]? = some x:=by
 refine jK eJ Fcs (aq (λh=>?_) (λ_=>fE h0 h1 (λx x1 _=>aj x1)));rw[Bool.or_eq_true,decide_eq_true_eq,decide_eq_true_eq]at h;omega
theorem Ak.vars(h:Ak F){x:aO}(hx:F.oW.aG[i.toNat]? = some x):x.eG.length<=10∧∀v∈x.eG,I6 v.uK:=by
 obtain⟨gw,h⟩:=h.tree;obtain⟨I,T,r,g⟩:=h.cs _ x hx;have:=g.i3;have:=g.t1;rw[g.vars];unfold vW;refine⟨iC,λv hv=>?_⟩;simp only[List.mem_append,List.mem_map,List.mem_range,List.mem_singleton]at hv;rcases hv with(⟨k,hk,rfl⟩ | rfl)|⟨k,hk,rfl⟩
 .exact I6.of bB
 .exact I6.of aV
 .exact I6.of (show -1000000000<=(0:Int)∧(0:Int)<=1000000000 by decide)
structure StL(s:aM):Prop where
 ok:ae9 s
 v:s.eG.length<=1000
 t:s.dh.length<=1000
theorem KF(h:Ak F)(h0:0<=i)(h1:i<(fN F:Int)):Wp (pv F i) StL:=by
 refine av (Jf h0 h1) (λx hx=>?_);obtain⟨v1,v2⟩:=h.vars hx;refine cC (λj s=>s.1.length<=j∧s.2.length<=j∧(∀y∈s.1,I6 y)∧∀y∈s.2,BS y) (gq ah) ⟨aR,aR,aR,aR⟩ ?_ ?_
 .rintro j ⟨s,t⟩ hj ⟨q1,q2,q3,q4⟩
  dsimp only at q1 q2 q3 q4;refine bO hj (λv _ vm=>aq (λ_=>aX (aK (yk bB aV) (ay (aj ⟨?_,?_,q3,λy hy=>?_⟩)))) (λ_=>aX (aK (yk bB aV) (ay (aj ⟨?_,?_,λy hy=>?_,q4⟩)))))
  .dsimp only;omega
  .simp_all
  .rcases List.mem_append.1 hy with hy|hy
   .grind
   .simp at hy;subst hy;exact BS.nil
  .simp_all
  .dsimp only;omega
  .rcases List.mem_append.1 hy with hy|hy
   all_goals simp_all
 .rintro⟨s,t⟩ ⟨q1,q2,q3,q4⟩
  dsimp only at q1 q2 q3 q4;exact cV (aj ⟨⟨q3,q4,BS.nil⟩,bB,bB⟩)
theorem Ak.pc(h:Ak F)(h0:0<=i)(h1:i<(fN F:Int)):∃x,idx F.yL.nc i=some x∧aiq (fN F) x:=by
 have:=h.prog.n;obtain⟨x,x1,_,x3⟩:=la (xs:=F.yL.nc) h0 eJ;exact⟨x,x1,h.prog.cs x x3⟩
theorem Iv(h:Ak F)(h0:0<=i)(h1:i<(fN F:Int)):Wp (lC F i) λl=>l.length<=6:=by
 refine mC (aq (λh'=>?_) (λ_=>?_))
 .exact aj (aj aR)
 obtain⟨x,x1,x2⟩:=h.pc h0 h1;have:=x2.n6;refine aF x1 (aF (x:=x.Ad) ?_ (cV (aj (aj this))));unfold cl iI;rw[tA (Iu iC aV)];simp
theorem aau{v k:Int}(h:Ak F)(h0:0<=i)(h1:i<(fN F:Int)):Wp (uD F i v k) λr=>r.2=true->0<=k∧k<6:=by
 refine av (Jf h0 h1) (λx hx=>av (Iv h h0 h1) (λl hl=>aq (λ_=>aj (λh=>dI)) (λhc=>?_)));simp only[Bool.or_eq_false_iff,decide_eq_false_iff_not]at hc;obtain⟨gw,ht⟩:=h.tree;obtain⟨I,T,r,g⟩:=ht.cs _ x hx;have:=g.v2;have hr:=ht.ar r (List.mem_of_getElem? g.ar);have YE:(List.take (Int.toNat v) x.bf).length<=2:=zG;refine aK ⟨ah,ah,ah⟩ (eS (λ_ _=>True) (gq ah) trivial ?_ (λ_ _=>aj (λh=>dI)));intro j _ hj _;refine bO hj (λu u1 u2=>?_);have hu:=(g.h1 u (List.mem_of_mem_take u2)).2;refine eS (λ_ _=>True) (gq ah) trivial ?_ (λ_ _=>ay (aj trivial));intro q _ hq _;exact bO hq (λy _ _=>fE ah ah (λz _ _=>aq (λ_=>aj (aj (aj (λ_=>⟨ah,ah⟩)))) (λ_=>ay (aj trivial))))
theorem aik{v k:Int}(h:Ak F)(h0:0<=i)(h1:i<(fN F:Int))(hv:v<=1000):Wp (wG F i v k) λr=>TY (fN F) r.1:=by
 refine av (P:=λr=>TY (fN F) r.1) ?_ (λr hr=>aj hr);refine aq (λ_=>aj TY.zero) (λ_=>?_);obtain⟨x,x1,x2⟩:=h.pc h0 h1;refine aF x1 ?_;have uf:=x2.uf;cases hg:(((decide (v<1))||(decide ((x.Ds.length:Int)<v)))||(decide (k<0)))||(decide ((x.Ad.length:Int)<=k))with
 |true=>exact aF rfl (aF rfl (aq (λ_=>aj TY.zero) (λh=>dI)))
 |false=>
  simp only[Bool.or_eq_false_iff,decide_eq_false_iff_not]at hg;have wv:IntKind.wrap .i64 (v-1)=v-1:=wrap_i64 ah ah;rw[wv];obtain⟨fs,f1,_,f3⟩:=la (xs:=x.Kd) (i:=v-1) ah ah;have fl:=x2.fs fs f3;obtain⟨b,b1,_,_⟩:=la (xs:=fs) (i:=k) ah ah;refine jK rfl f1 (jK rfl b1 (aq (λ_=>aj TY.zero) (λ_=>?_)));refine fE ah ah (λus _ u3=>?_);obtain⟨ul,uo⟩:=x2.us us u3;refine fE ah ah (λu _ um=>?_);have ho:=uo u um;have hl:=ho.len;refine aF (x:=u.ri) ?_ (cV (aj ?_))
  .unfold cl fI
   rw[tA (Iu iC aV)];simp
  omega
theorem Yo(h0:0<=i)(h1:i<(fN F:Int)):Ji (tu F i):=by
 exact av (Jf h0 h1) (λ_ _=>aj trivial)
theorem Ak.lk(h:Ak F):F.oW.fJ.length<=9∧∀l∈F.oW.fJ,1<=l.pW∧l.pW<=3:=by
 have n3:=h.n3;obtain⟨gw,h⟩:=h.tree;obtain⟨ks,k1,k2,k3⟩:=h.lk;rw[k3];refine⟨?_,λl hl=>?_⟩
 .have:=OJ (F.oW.aG.length*F.oW.aG.length) (ks.map (·.1)) k1 (λx hx=>by
   obtain⟨p,hp,rfl⟩:=List.mem_map.1 hx;exact(k2 p hp).1)
  have h9:F.oW.aG.length*F.oW.aG.length<=3*3:=Nat.mul_le_mul n3 n3;simp at this |-;omega
 .obtain⟨p,hp,rfl⟩:=List.mem_map.1 hl
  exact(k2 p hp).2
theorem Wb(h:Ak F)(h0:0<=i)(h1:i<(fN F:Int))(h2:0<=j)(h3:j<(fN F:Int)):Wp (tL F i j) λr=>0<=r∧r<=3:=by
 obtain⟨l9,l3⟩:=h.lk;refine aF Fcs (aq (λ_=>aj aV) (λ_=>?_));refine eS (λ_ _=>True) (gq ah) trivial ?_ (λ_ _=>aj aV);intro q _ hq _;refine bO hq (λy _ ym=>av (Yo h0 h1) (λz _=>av (P:=λ_=>True) (gX (λ_=>Yo h2 h3) (λ_=>trivial)) (λz2 _=>aq (λ_=>aj (aj ?_)) (λ_=>ay (aj trivial)))));have:=l3 y ym;omega
theorem SQ(h0:0<=i):Ji (sS F i):=by
 refine av (P:=λ_=>True) ?_ (λ_ _=>aj trivial);refine jK eJ Ffs (aq (λh=>aj trivial) (λhc=>?_));simp only[Bool.or_eq_false_iff,decide_eq_false_iff_not]at hc;exact fE h0 ah (λ_ _ _=>aj trivial)
theorem SK(h0:0<=i)(h1:i<(fN F:Int)):Ji (sR F i):=by
 exact av (Jf h0 h1) (λ_ _=>aj trivial)
end
structure Fits(F:cR)(c:au):Prop where
 a:c.cQ.bC=1∨c.cQ.bC=3∨c.cQ.bC=4->c.cQ.gA<(fN F:Int)
 b:c.cQ.bC=2->c.cQ.gA<(F.oW.aY.length:Int)
theorem Wc{F:cR}{c:au}(h:Ak F)(hc:BV c):Wp (vF c F) λv=>v=0->Fits F c:=by
 have K1:∀(n m:Int),(n<=(fN F:Int)∨c.cQ.bC=2)->(c.cQ.bC=1∨c.cQ.bC=3∨c.cQ.bC=4->n=(fN F:Int))->(c.cQ.bC=2->n=(F.oW.aY.length:Int))->Wp (lY c F (n,m)) λv=>v=0->Fits F c:=by
  intro n m hn h1 h2;refine aq (λ_=>aj (λh=>dI)) (λhh=>?_);simp only[Bool.or_eq_false_iff,decide_eq_false_iff_not]at hh;refine av (P:=λ_=>True) (gX (λe=>SK hc.a0 ?_) (λ_=>trivial)) (λv _=>aq (λ_=>aj (λh=>dI)) (λ_=>aj (λ_=>⟨λe=>?_,λe=>?_⟩)))
  all_goals simp_all
 have K2:∀b:Bool,c.cQ.bC≠2->Wp (oK c F (fN F:Int) b) λv=>v=0->Fits F c:=λb h2=>aq (λ_=>ay (K1 _ _ (.inl (Int.le_refl _)) (λ_=>rfl) (λe=>absurd e h2))) (λ_=>ay (K1 _ _ (.inl (Int.le_refl _)) (λ_=>rfl) (λe=>absurd e h2)))
 unfold vF;refine aF (afn hc) (aq (λh=>dI) (λ_=>aF Fcs (cX ?_)));refine aq (λe=>?_) (λn1=>aq (λe=>?_) (λn2=>cX ?_))
 .have e1:=yY e
  by_cases hA:c.cQ.gA<(fN F:Int)
  .exact av (Iv h hc.a0 hA) (λl _=>ay (K1 _ _ (.inl (Int.le_refl _)) (λ_=>rfl) (λe=>ah)))
  .refine av (P:=λ_=>True) ?_ (λl _=>ay (K1 _ _ (.inl (Int.le_refl _)) (λ_=>rfl) (λe=>ah)))
   unfold lC rP;have hn:F.yL.nc.length=fN F:=h.prog.n;refine mC (aq (λh'=>aj (aj trivial)) (λh'=>?_))
   simp_all
 .have e1:=yY e
  exact aF Ffs (ay (K1 _ _ (.inr e1) (λe=>ah) (λ_=>rfl)))
 .have:=xj n2
  exact aq (λ_=>ay (K2 _ this)) (λ_=>aq (λ_=>ay (K2 _ this)) (λ_=>ay (K2 _ this)))
end Go.Proofs.YtaafmkmdfcgeaaaGreatDoor
