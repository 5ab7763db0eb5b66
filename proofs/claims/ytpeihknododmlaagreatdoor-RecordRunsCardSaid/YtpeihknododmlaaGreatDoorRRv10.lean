/- Part 10 of what the claim leans on. -/
import Derived.Test.YtpeihknododmlaaGreatDoorRRv9
set_option maxRecDepth 100000
set_option maxHeartbeats 4000000
set_option linter.unusedVariables false
set_option linter.unusedSimpArgs false
namespace Go.Proofs.YtpeihknododmlaaGreatDoor
open Go.Proofs.Tryz
open Go.RowKit
attribute [local irreducible] ik du bx iM oE dL eN iJ
noncomputable def xg(x0:Nat)(x1:Int)(x2:Int)(o0:List aO):Option (List aO) :=
 Bi (idx o0 ((x0:Nat):Int)) fun v2=>
 Bi (ib v2 x1) fun v4=>
 Bi (gb (!v4.2) (0) (pM v2)) fun v6=>
 If (v4.2||(decide (v6<16))) (
  Bi (nF v2 x1 x2) fun v8=>
  eT 31 jm v8 fun v9=>
  rX [] (some (List.set o0 (Int.toNat ((x0:Nat):Int)) v9)))<|
 rX [] (some o0)
instance aax{x0 x1 x2 o0}:MA (xg x0 x1 x2 o0) prog 339 (fun _=>1) fun r=>⟨[.rp 100000 (Int.toNat ((x0:Nat):Int)) 1 0,.I x1,.I x2],[(100000,some (.R 150 1 jm o0))],.gW [],[(100000,some (.R 150 1 jm r))],[]⟩:=⟨fun hM=>by unfold xg at hM;exact ae func339 ntmps339⟩
noncomputable def oO(x0:aO)(x1:Int):Option aO :=
 Bi (jY x0 x1) fun v2=>
 If (!v2.2) (
  some x0)<|
 Ck (eN (x0.aW.length) 0 v2.1)<|
 Ck (eN (x0.aW.length) (IntKind.wrap .i64 (v2.1+1)) (x0.aW.length))<|
 eT 25 (bA 1 (bA 2 uI)) [(List.take (Int.toNat v2.1) x0.aW),(List.drop (Int.toNat (IntKind.wrap .i64 (v2.1+1))) x0.aW)] fun v5=>
 Bi (cl 26 [(50000,26)] (eF v5)) fun v7=>
 wk [.z 26]<|some (aO.mk v7)
instance Ny{x0 x1}:MC (oO x0 x1) fun r=>bx prog 342 [.agg (Bo x0),.I x1] (.agg (Bo r)):=⟨fun hM=>by unfold oO at hM;exact pbz func342 ntmps342 (wz [25])⟩
noncomputable def mO(x1:Int)(x2:Nat)(o0:aJ):Option aJ :=
 If (x1==6) (
  Bi (idx o0.aE.bG.cX ((x2:Nat):Int)) fun v2=>
  Bi (cl 19 [(50000,10001)] (dU o0)) fun v4=>
  Bi (ib v2 v4.1) fun v6=>
  Bi (cl 25 [(100005,10001),(50000,10002)] (dY v6.1 ({ v4.2 with aE:=(bV.mk ({ o0.aE.bG with dW:=v4.2.aE.bG.dW }:aL) o0.aE.cZ v4.2.aE.jT),bX:=({ v4.2.bX with aR:=o0.bX.aR }:dV) }:aJ))) fun v8=>
  rX [(50000,10002)] (some ({ v8 with aE:=(bV.mk ({ o0.aE.bG with dW:=v8.aE.bG.dW }:aL) o0.aE.cZ v8.aE.jT),bX:=({ v8.bX with aR:=o0.bX.aR }:dV) }:aJ)))<|
 If (x1==7) (
  Bi (idx o0.aE.bG.cX ((x2:Nat):Int)) fun v10=>
  Bi (cl 33 [(50000,10003)] (dU o0)) fun v12=>
  Bi (ib v10 v12.1) fun qm=>
  Bi (wE qm.2) fun pF=>
  Bi (cl 40 [(100005,10003),(50000,10004)] (dY pF ({ v12.2 with aE:=(bV.mk ({ o0.aE.bG with dW:=v12.2.aE.bG.dW }:aL) o0.aE.cZ v12.2.aE.jT),bX:=({ v12.2.bX with aR:=o0.bX.aR }:dV) }:aJ))) fun ob=>
  rX [(50000,10004)] (some ({ ob with aE:=(bV.mk ({ o0.aE.bG with dW:=ob.aE.bG.dW }:aL) o0.aE.cZ ob.aE.jT),bX:=({ ob.bX with aR:=o0.bX.aR }:dV) }:aJ)))<|
 If (x1==8) (
  Bi (idx o0.aE.bG.cX ((x2:Nat):Int)) fun v20=>
  Bi (pM v20) fun vX=>
  Bi (cl 48 [(50000,10005)] (dY vX o0)) fun v24=>
  rX [(50000,10005)] (some ({ v24 with aE:=(bV.mk ({ o0.aE.bG with dW:=v24.aE.bG.dW }:aL) o0.aE.cZ v24.aE.jT),bX:=({ v24.bX with aR:=o0.bX.aR }:dV) }:aJ)))<|
 If (x1==25) (
  Bi (cl 52 [(50000,10006)] (dU o0)) fun yN=>
  Bi (cl 55 [(100005,10006),(50000,10007)] (dU ({ yN.2 with aE:=(bV.mk ({ o0.aE.bG with dW:=yN.2.aE.bG.dW }:aL) o0.aE.cZ yN.2.aE.jT),bX:=({ yN.2.bX with aR:=o0.bX.aR }:dV) }:aJ))) fun v28=>
  Bi (cl 57 [(100000,100002)] (xg (Int.toNat ((x2:Nat):Int)) v28.1 yN.1 o0.aE.bG.cX)) fun v30=>
  rX [(50000,10007)] (some ({ v28.2 with aE:=(bV.mk (aL.mk o0.aE.bG.ez v30 v28.2.aE.bG.dW) o0.aE.cZ v28.2.aE.jT),bX:=({ v28.2.bX with aR:=o0.bX.aR }:dV) }:aJ)))<|
 If (x1==26) (
  Bi (idx o0.aE.bG.cX ((x2:Nat):Int)) fun Bh=>
  Bi (cl 65 [(50000,10008)] (dU o0)) fun Kw=>
  Bi (oO Bh Kw.1) fun Mv=>
  eT 67 jm Mv fun v37=>
  rX [(50000,10008)] (some ({ Kw.2 with aE:=(bV.mk (aL.mk o0.aE.bG.ez (List.set o0.aE.bG.cX (Int.toNat ((x2:Nat):Int)) v37) Kw.2.aE.bG.dW) o0.aE.cZ Kw.2.aE.jT),bX:=({ Kw.2.bX with aR:=o0.bX.aR }:dV) }:aJ)))<|
 rX [(50000,100005)] (some o0)
instance LO{x1 x2 o0}:MA (mO x1 x2 o0) prog 299 (fun _=>7) fun r=>⟨[.ref 100000 0,.int .u8 x1,.rp 100002 (Int.toNat ((x2:Nat):Int)) 1 0],[(100000,some (.bC 361 (aJ.b0 o0 (.row 100001) (.row 100002) (.row 100003) (.row 100004) (.row 100005)))),(100001,some (.R 2 1 (DV.int .i64) o0.aE.bG.ez)),(100002,some (.R 150 1 jm o0.aE.bG.cX)),(100003,some (.R 279 8 oc o0.aE.cZ)),(100004,some (.R 4 1 DV.bool o0.bX.aR)),(100005,some (.R 2 1 (DV.int .i64) o0.cy))],.gW [],[(100000,some (.bC 361 (aJ.b0 r (.row 100001) (.row 100002) (.row 100003) (.row 100004) (.row 50000)))),(100001,some (.R 2 1 (DV.int .i64) r.aE.bG.ez)),(100002,some (.R 150 1 jm r.aE.bG.cX)),(100003,some (.R 279 8 oc r.aE.cZ)),(100004,some (.R 4 1 DV.bool r.bX.aR)),(50000,some (.R 2 1 (DV.int .i64) r.cy)),(100005,none)],[50000]⟩:=⟨fun hM=>by unfold mO at hM;exact ae func299 ntmps299⟩
noncomputable def xe(x0:Int)(x1:Int)(x2:Int):Option Int :=
 If (x2==0) (
  some 0)<|
 If ((x2==(-1))&&(x0==12)) (
  some (IntKind.wrap .i64 (0-x1)))<|
 If (x2==(-1)) (
  some 0)<|
 If (x0==12) (
  Ck (x2≠0)<|
  some (IntKind.wrap .i64 (Int.tdiv x1 x2)))<|
 Ck (x2≠0)<|
 some (Int.tmod x1 x2)
instance aav{x0 x1 x2}:MC (xe x0 x1 x2) fun r=>bx prog 343 [.int .u8 x0,.I x1,.I x2] (.I r):=⟨fun hM=>by unfold xe at hM;exact pb func343 ntmps343⟩
@[reducible] noncomputable def BM(s1:Unit):Option (Int×Int) :=
 some (0,1)
@[reducible] noncomputable def vJ(x0:Int)(x1:Int)(x2:Int)(Kx:Bool):Option (Int×Int) :=
 If Kx (
  Bi (xe x0 x1 x2) fun v4=>
  some (v4,0))<|
 If (x0==14) (
  some ((IntKind.wrap .i64 (x1+x2)),0))<|
 If (x0==15) (
  some ((IntKind.wrap .i64 (x1-x2)),0))<|
 If (x0==16) (
  Bi (kW (x1==x2)) fun v6=>
  some (v6,0))<|
 If (x0==17) (
  Bi (kW (x1 != x2)) fun v8=>
  some (v8,0))<|
 If (x0==18) (
  Bi (kW (decide (x1<x2))) fun v10=>
  some (v10,0))<|
 If (x0==19) (
  Bi (kW (decide (x1≤x2))) fun v12=>
  some (v12,0))<|
 If (x0==20) (
  Bi (kW (decide (x2<x1))) fun qm=>
  some (qm,0))<|
 If (x0==21) (
  Bi (kW (decide (x2≤x1))) fun pF=>
  some (pF,0))<|
 If (x0==22) (
  Bi (kW ((x1 != 0)&&(x2 != 0))) fun ob=>
  some (ob,0))<|
 If (x0==23) (
  Bi (kW ((x1 != 0)||(x2 != 0))) fun v20=>
  some (v20,0))<|
 nX [] [] (BM ())
noncomputable def xf(x0:Int)(x1:Int)(x2:Int):Option (Int×Int) :=
 jn BM 1 [] [] [] i2 i2<|
 If (x0==11) (
  some ((IntKind.wrap .i64 (x1*x2)),0))<|
 jn (vJ x0 x1 x2) 4 [] [0,1,2,8] [] (fun s t=>(14,.bool s)::t) i2<|
 If (x0==12) (
  nX [] [] (vJ x0 x1 x2 (x0==12)))<|
 nX [] [] (vJ x0 x1 x2 (x0==13))
instance aaw{x0 x1 x2}:MC (xf x0 x1 x2) fun r=>bx prog 300 [.int .u8 x0,.I x1,.I x2] (.gW [.I r.1,.I r.2]):=⟨fun hM=>by unfold xf at hM;exact pb func300 ntmps300⟩
@[reducible] noncomputable def hD(x1:aC)(o0:aJ)(s52:Bool):Option aJ :=
 If s52 (
  Bi (idx o0.aE.bG.cX x1.gA) fun FH=>
  Bi (cl 187 [(50000,10014)] (mO x1.cU (Int.toNat x1.gA) o0)) fun TG=>
  rX [(50000,100003),(50001,10014)] (some TG))<|
 Bi (cl 12 [(50000,10015)] (dU o0)) fun VI=>
 Bi (cl 17 [(100005,10015),(50000,10016)] (dU ({ VI.2 with aE:=(bV.mk ({ o0.aE.bG with dW:=VI.2.aE.bG.dW }:aL) o0.aE.cZ VI.2.aE.jT),bX:=({ VI.2.bX with aR:=o0.bX.aR }:dV) }:aJ))) fun xv=>
 Bi (xf x1.cU xv.1 VI.1) fun v49=>
 Bi (cl 24 [(100005,10016),(50000,10017)] (dY v49.1 ({ xv.2 with aE:=(bV.mk ({ o0.aE.bG with dW:=xv.2.aE.bG.dW }:aL) o0.aE.cZ xv.2.aE.jT),bX:=({ xv.2.bX with aR:=o0.bX.aR }:dV) }:aJ))) fun v51=>
 rX [(50000,100003),(50001,10017)] (some ({ v51 with aE:=(bV.mk ({ o0.aE.bG with dW:=v51.aE.bG.dW }:aL) o0.aE.cZ v51.aE.jT),bX:=({ v51.bX with aR:=o0.bX.aR }:dV) }:aJ))
@[reducible] noncomputable def oq(x1:aC)(o0:aJ)(TH:Bool):Option aJ :=
 If TH (
  Bi (cl 158 [(50000,10012),(50001,10013)] (nW x1 o0)) fun Nn=>
  rX [(50000,10012),(50001,10013)] (some Nn))<|
 If (x1.cU==34) (
  rX [(50000,100003),(50001,100005)] (some ({ o0 with sF:=(o0.cE.length:Int) }:aJ)))<|
 jn (hD x1 o0) 37 [100000,100001,100002,100003,100004,100005] [0,3] [3,100000,100001,100002,100003,100004,100005] (fun s t=>(169,.bool s)::t) i2<|
 If (x1.cU==6) (
  nX [] [] (hD x1 o0 (x1.cU==6)))<|
 If (x1.cU==7) (
  nX [] [] (hD x1 o0 (x1.cU==7)))<|
 If (x1.cU==8) (
  nX [] [] (hD x1 o0 (x1.cU==8)))<|
 If (x1.cU==25) (
  nX [] [] (hD x1 o0 (x1.cU==25)))<|
 nX [] [] (hD x1 o0 (x1.cU==26))
@[reducible] noncomputable def ot(x1:aC)(o0:aJ)(s54:Bool):Option aJ :=
 If s54 (
  Bi (cl 152 [(50000,10010),(50001,10011)] (nV x1 o0)) fun zh=>
  rX [(50000,10010),(50001,10011)] (some zh))<|
 jn (oq x1 o0) 32 [100000,100001,100002,100003,100004,100005] [0,3,10] [3,100000,100001,100002,100003,100004,100005] (fun s t=>(153,.bool s)::t) i2<|
 If (x1.cU==32) (
  nX [] [] (oq x1 o0 (x1.cU==32)))<|
 nX [] [] (oq x1 o0 (x1.cU==33))
@[reducible] noncomputable def ou(x1:aC)(o0:aJ)(s55:Bool):Option aJ :=
 If s55 (
  Bi (cl 88 [(50000,10006)] (dU o0)) fun v21=>
  Bi (yz x1.cU v21.1) fun uG=>
  Bi (cl 94 [(100005,10006),(50000,10007)] (dY uG.1 ({ v21.2 with aE:=(bV.mk ({ o0.aE.bG with dW:=v21.2.aE.bG.dW }:aL) o0.aE.cZ v21.2.aE.jT),bX:=({ v21.2.bX with aR:=o0.bX.aR }:dV) }:aJ))) fun vY=>
  rX [(50000,100003),(50001,10007)] (some ({ vY with aE:=(bV.mk ({ o0.aE.bG with dW:=vY.aE.bG.dW }:aL) o0.aE.cZ vY.aE.jT),bX:=({ vY.bX with aR:=o0.bX.aR }:dV) }:aJ)))<|
 If (x1.cU==24) (
  Bi (cl 106 [(50000,10008)] (dU o0)) fun FZ=>
  Bi (idx o0.aE.bG.ez x1.gA) fun GA=>
  eT 107 (DV.int .i64) FZ.1 fun v30=>
  rX [(50000,100003),(50001,10008)] (some ({ FZ.2 with aE:=(bV.mk (aL.mk (List.set o0.aE.bG.ez (Int.toNat x1.gA) v30) o0.aE.bG.cX FZ.2.aE.bG.dW) o0.aE.cZ FZ.2.aE.jT),bX:=({ FZ.2.bX with aR:=o0.bX.aR }:dV) }:aJ)))<|
 If (x1.cU==27) (
  rX [(50000,100003),(50001,100005)] (some ({ o0 with sF:=x1.gA }:aJ)))<|
 If (x1.cU==28) (
  Bi (cl 118 [(50000,10009)] (dU o0)) fun Bh=>
  If (Bh.1==0) (
   rX [(50000,100003),(50001,10009)] (some ({ Bh.2 with aE:=(bV.mk ({ o0.aE.bG with dW:=Bh.2.aE.bG.dW }:aL) o0.aE.cZ Bh.2.aE.jT),bX:=({ Bh.2.bX with aR:=o0.bX.aR }:dV),sF:=x1.gA }:aJ)))<|
  rX [(50000,100003),(50001,10009)] (some ({ Bh.2 with aE:=(bV.mk ({ o0.aE.bG with dW:=Bh.2.aE.bG.dW }:aL) o0.aE.cZ Bh.2.aE.jT),bX:=({ Bh.2.bX with aR:=o0.bX.aR }:dV) }:aJ)))<|
 If (x1.cU==29) (
  rX [(50000,100003),(50001,100005)] (some ({ o0 with aE:=({ o0.aE with jT:=(if 200<(IntKind.wrap .i64 (o0.aE.jT+1))then 200 else(IntKind.wrap .i64 (o0.aE.jT+1))) }:bV),nJ:=(o0.aE.jT==200) }:aJ)))<|
 jn (ot x1 o0) 29 [100000,100001,100002,100003,100004,100005] [0,3,10] [3,100000,100001,100002,100003,100004,100005] (fun s t=>(147,.bool s)::t) i2<|
 If (x1.cU==30) (
  nX [] [] (ot x1 o0 (x1.cU==30)))<|
 nX [] [] (ot x1 o0 (x1.cU==31))
noncomputable def nU(x1:aC)(o0:aJ):Option aJ :=
 dX 20 5 3<|
 If (x1.cU==1) (
  Bi (cl 30 [(50000,10001)] (dY x1.gN o0)) fun v2=>
  rX [(50000,100003),(50001,10001)] (some ({ v2 with aE:=(bV.mk ({ o0.aE.bG with dW:=v2.aE.bG.dW }:aL) o0.aE.cZ v2.aE.jT),bX:=({ v2.bX with aR:=o0.bX.aR }:dV) }:aJ)))<|
 If (x1.cU==2) (
  Bi (idx o0.aE.bG.ez x1.gA) fun v4=>
  Bi (cl 44 [(50000,10002)] (dY v4 o0)) fun v6=>
  rX [(50000,100003),(50001,10002)] (some ({ v6 with aE:=(bV.mk ({ o0.aE.bG with dW:=v6.aE.bG.dW }:aL) o0.aE.cZ v6.aE.jT),bX:=({ v6.bX with aR:=o0.bX.aR }:dV) }:aJ)))<|
 If (x1.cU==3) (
  Bi (idx o0.bX.bR x1.gA) fun v8=>
  Bi (cl 57 [(50000,10003)] (dY v8 o0)) fun v10=>
  rX [(50000,100003),(50001,10003)] (some ({ v10 with aE:=(bV.mk ({ o0.aE.bG with dW:=v10.aE.bG.dW }:aL) o0.aE.cZ v10.aE.jT),bX:=({ v10.bX with aR:=o0.bX.aR }:dV) }:aJ)))<|
 If (x1.cU==4) (
  Bi (idx o0.bX.aR x1.gA) fun v12=>
  Bi (wE v12) fun qm=>
  Bi (cl 71 [(50000,10004)] (dY qm o0)) fun pF=>
  rX [(50000,100003),(50001,10004)] (some ({ pF with aE:=(bV.mk ({ o0.aE.bG with dW:=pF.aE.bG.dW }:aL) o0.aE.cZ pF.aE.jT),bX:=({ pF.bX with aR:=o0.bX.aR }:dV) }:aJ)))<|
 If (x1.cU==5) (
  Bi (cl 80 [(50000,10005)] (dY o0.bX.BK o0)) fun ob=>
  rX [(50000,100003),(50001,10005)] (some ({ ob with aE:=(bV.mk ({ o0.aE.bG with dW:=ob.aE.bG.dW }:aL) o0.aE.cZ ob.aE.jT),bX:=({ ob.bX with aR:=o0.bX.aR }:dV) }:aJ)))<|
 jn (ou x1 o0) 15 [100000,100001,100002,100003,100004,100005] [0,3,10] [3,100000,100001,100002,100003,100004,100005] (fun s t=>(81,.bool s)::t) i2<|
 If (x1.cU==9) (
  nX [] [] (ou x1 o0 (x1.cU==9)))<|
 nX [] [] (ou x1 o0 (x1.cU==10))
instance MZ{x1 o0}:MA (nU x1 o0) prog 221 (fun _=>8) fun r=>⟨[.ref 100000 0,.agg (Br x1)],[(100000,some (.bC 361 (aJ.b0 o0 (.row 100001) (.row 100002) (.row 100003) (.row 100004) (.row 100005)))),(100001,some (.R 2 1 (DV.int .i64) o0.aE.bG.ez)),(100002,some (.R 150 1 jm o0.aE.bG.cX)),(100003,some (.R 279 8 oc o0.aE.cZ)),(100004,some (.R 4 1 DV.bool o0.bX.aR)),(100005,some (.R 2 1 (DV.int .i64) o0.cy))],.gW [],[(100000,some (.bC 361 (aJ.b0 r (.row 100001) (.row 100002) (.row 50000) (.row 100004) (.row 50001)))),(100001,some (.R 2 1 (DV.int .i64) r.aE.bG.ez)),(100002,some (.R 150 1 jm r.aE.bG.cX)),(100004,some (.R 4 1 DV.bool r.bX.aR)),(50000,some (.R 279 8 oc r.aE.cZ)),(50001,some (.R 2 1 (DV.int .i64) r.cy)),(100003,none),(100005,none)],[50000,50001]⟩:=⟨fun hM=>by unfold nU at hM;exact ae func221 ntmps221⟩
@[reducible] noncomputable def pC(a1:Int)(Cl:(List Int)×(List aO)×(List cr)×(List cq)×Int×(List aC)×(List Int)×Int×(List Bool)×Int×(List Int)×(List Int)×Int×Int×Int×Bool):Option (xV (Int×(List Int)×(List aO)×(List cr)×(List cq)×Int×(List aC)×(List Int)×Int×(List Bool)×Int×(List Int)×(List Int)×Int×Int×Int×Bool) (((List Int)×(List aO)×(List cr)×(List cq)×Int×(List aC)×(List Int)×Int×(List Bool)×Int×(List Int)×(List Int)×Int×Int×Int×Bool)⊕aJ)) :=
 If Cl.2.2.2.2.2.2.2.2.2.2.2.2.2.2.2 (
  eT 52 (bA 8 oc) [(cq.mk 5 0 0 0 0 0 false [])] fun zh=>
  Ck (dL 80 (Cl.2.2.2.1.length+List.length zh))<|
  rX [(50000,53),(50001,10004)] (some (.done (.inr (aJ.mk (bV.mk (aL.mk Cl.1 Cl.2.1 (aO.mk Cl.2.2.1)) (Cl.2.2.2.1++zh) Cl.2.2.2.2.1) Cl.2.2.2.2.2.1 (dV.mk Cl.2.2.2.2.2.2.1 Cl.2.2.2.2.2.2.2.1 Cl.2.2.2.2.2.2.2.2.1 Cl.2.2.2.2.2.2.2.2.2.1 Cl.2.2.2.2.2.2.2.2.2.2.1) Cl.2.2.2.2.2.2.2.2.2.2.2.1 Cl.2.2.2.2.2.2.2.2.2.2.2.2.1 Cl.2.2.2.2.2.2.2.2.2.2.2.2.2.1 Cl.2.2.2.2.2.2.2.2.2.2.2.2.2.2.1 Cl.2.2.2.2.2.2.2.2.2.2.2.2.2.2.2)))))<|
 nX [] [(10001,10003),(10002,10004)] (some (.next ((IntKind.wrap .i64 (a1+1)),Cl.1,Cl.2.1,Cl.2.2.1,Cl.2.2.2.1,Cl.2.2.2.2.1,Cl.2.2.2.2.2.1,Cl.2.2.2.2.2.2.1,Cl.2.2.2.2.2.2.2.1,Cl.2.2.2.2.2.2.2.2.1,Cl.2.2.2.2.2.2.2.2.2.1,Cl.2.2.2.2.2.2.2.2.2.2.1,Cl.2.2.2.2.2.2.2.2.2.2.2.1,Cl.2.2.2.2.2.2.2.2.2.2.2.2.1,Cl.2.2.2.2.2.2.2.2.2.2.2.2.2.1,Cl.2.2.2.2.2.2.2.2.2.2.2.2.2.2.1,Cl.2.2.2.2.2.2.2.2.2.2.2.2.2.2.2)))
noncomputable def pj(o0:aJ):Option aJ :=
 wL (E:=((List Int)×(List aO)×(List cr)×(List cq)×Int×(List aC)×(List Int)×Int×(List Bool)×Int×(List Int)×(List Int)×Int×Int×Int×Bool)⊕aJ) (0,o0.aE.bG.ez,o0.aE.bG.cX,o0.aE.bG.dW.aW,o0.aE.cZ,o0.aE.jT,o0.cE,o0.bX.bR,o0.bX.BK,o0.bX.aR,o0.bX.dW,o0.bX.xb,o0.cy,o0.sF,o0.nI,o0.dh,o0.nJ) [100000,100001,100002,100003,100004,100005] [0] [] (fun s t=>(2,.I s.1)::t) (fun s t=>(10001,some (.R 279 8 oc s.2.2.2.2.1))::(10002,some (.R 2 1 (DV.int .i64) s.2.2.2.2.2.2.2.2.2.2.2.2.1))::(100000,some (.bC 361 (aJ.b0 (aJ.mk (bV.mk (aL.mk [] [] (aO.mk s.2.2.2.1)) [] s.2.2.2.2.2.1) s.2.2.2.2.2.2.1 (dV.mk s.2.2.2.2.2.2.2.1 s.2.2.2.2.2.2.2.2.1 [] s.2.2.2.2.2.2.2.2.2.2.1 s.2.2.2.2.2.2.2.2.2.2.2.1) [] s.2.2.2.2.2.2.2.2.2.2.2.2.2.1 s.2.2.2.2.2.2.2.2.2.2.2.2.2.2.1 s.2.2.2.2.2.2.2.2.2.2.2.2.2.2.2.1 s.2.2.2.2.2.2.2.2.2.2.2.2.2.2.2.2) (.row 100001) (.row 100002) (.row 10001) (.row 100004) (.row 10002))))::(100001,some (.R 2 1 (DV.int .i64) s.2.1))::(100002,some (.R 150 1 jm s.2.2.1))::(100004,some (.R 4 1 DV.bool s.2.2.2.2.2.2.2.2.2.1))::t) [] [(10001,100003),(10002,100005)] (fun sK=>
  If (decide (sK.2.2.2.2.2.2.2.2.2.2.2.2.2.1<(sK.2.2.2.2.2.2.1.length:Int))) (
   jn (pC sK.1) 3 [100000,100001,100002,100003,100004,100005] [0,2] [] i2 (fun s t=>(10003,some (.R 279 8 oc s.2.2.2.1))::(10004,some (.R 2 1 (DV.int .i64) s.2.2.2.2.2.2.2.2.2.2.2.1))::(100000,some (.bC 361 (aJ.b0 (aJ.mk (bV.mk (aL.mk [] [] (aO.mk s.2.2.1)) [] s.2.2.2.2.1) s.2.2.2.2.2.1 (dV.mk s.2.2.2.2.2.2.1 s.2.2.2.2.2.2.2.1 [] s.2.2.2.2.2.2.2.2.2.1 s.2.2.2.2.2.2.2.2.2.2.1) [] s.2.2.2.2.2.2.2.2.2.2.2.2.1 s.2.2.2.2.2.2.2.2.2.2.2.2.2.1 s.2.2.2.2.2.2.2.2.2.2.2.2.2.2.1 s.2.2.2.2.2.2.2.2.2.2.2.2.2.2.2) (.row 100001) (.row 100002) (.row 10003) (.row 100004) (.row 10004))))::(100001,some (.R 2 1 (DV.int .i64) s.1))::(100002,some (.R 150 1 jm s.2.1))::(100004,some (.R 4 1 DV.bool s.2.2.2.2.2.2.2.2.1))::t)<|
   If (sK.1==1048576) (
    nX [] [(10003,10001),(10004,10002)] (pC sK.1 (sK.2.1,sK.2.2.1,sK.2.2.2.1,sK.2.2.2.2.1,sK.2.2.2.2.2.1,sK.2.2.2.2.2.2.1,sK.2.2.2.2.2.2.2.1,sK.2.2.2.2.2.2.2.2.1,sK.2.2.2.2.2.2.2.2.2.1,sK.2.2.2.2.2.2.2.2.2.2.1,sK.2.2.2.2.2.2.2.2.2.2.2.1,sK.2.2.2.2.2.2.2.2.2.2.2.2.1,sK.2.2.2.2.2.2.2.2.2.2.2.2.2.1,sK.2.2.2.2.2.2.2.2.2.2.2.2.2.2.1,sK.2.2.2.2.2.2.2.2.2.2.2.2.2.2.2.1,true)))<|
   Bi (idx sK.2.2.2.2.2.2.1 sK.2.2.2.2.2.2.2.2.2.2.2.2.2.1) fun Fl=>
   Bi (cl 40 [(100003,10001),(100005,10002),(50000,10005),(50001,10006)] (nU Fl (aJ.mk (bV.mk (aL.mk sK.2.1 sK.2.2.1 (aO.mk sK.2.2.2.1)) sK.2.2.2.2.1 sK.2.2.2.2.2.1) sK.2.2.2.2.2.2.1 (dV.mk sK.2.2.2.2.2.2.2.1 sK.2.2.2.2.2.2.2.2.1 sK.2.2.2.2.2.2.2.2.2.1 sK.2.2.2.2.2.2.2.2.2.2.1 sK.2.2.2.2.2.2.2.2.2.2.2.1) sK.2.2.2.2.2.2.2.2.2.2.2.2.1 (IntKind.wrap .i64 (sK.2.2.2.2.2.2.2.2.2.2.2.2.2.1+1)) sK.2.2.2.2.2.2.2.2.2.2.2.2.2.2.1 sK.2.2.2.2.2.2.2.2.2.2.2.2.2.2.2.1 sK.2.2.2.2.2.2.2.2.2.2.2.2.2.2.2.2))) fun FH=>
   nX [] [(10003,10005),(10004,10006)] (pC sK.1 (FH.aE.bG.ez,FH.aE.bG.cX,FH.aE.bG.dW.aW,FH.aE.cZ,FH.aE.jT,FH.cE,FH.bX.bR,FH.bX.BK,FH.bX.aR,FH.bX.dW,FH.bX.xb,FH.cy,FH.sF,FH.nI,FH.dh,FH.nJ)))<|
  some (.done (.inl (sK.2.1,sK.2.2.1,sK.2.2.2.1,sK.2.2.2.2.1,sK.2.2.2.2.2.1,sK.2.2.2.2.2.2.1,sK.2.2.2.2.2.2.2.1,sK.2.2.2.2.2.2.2.2.1,sK.2.2.2.2.2.2.2.2.2.1,sK.2.2.2.2.2.2.2.2.2.2.1,sK.2.2.2.2.2.2.2.2.2.2.2.1,sK.2.2.2.2.2.2.2.2.2.2.2.2.1,sK.2.2.2.2.2.2.2.2.2.2.2.2.2.1,sK.2.2.2.2.2.2.2.2.2.2.2.2.2.2.1,sK.2.2.2.2.2.2.2.2.2.2.2.2.2.2.2.1,sK.2.2.2.2.2.2.2.2.2.2.2.2.2.2.2.2)))) fun
  |.inl e42=>
   rX [(50000,10001),(50001,10002)] (some (aJ.mk (bV.mk (aL.mk e42.1 e42.2.1 (aO.mk e42.2.2.1)) e42.2.2.2.1 e42.2.2.2.2.1) e42.2.2.2.2.2.1 (dV.mk e42.2.2.2.2.2.2.1 e42.2.2.2.2.2.2.2.1 e42.2.2.2.2.2.2.2.2.1 e42.2.2.2.2.2.2.2.2.2.1 e42.2.2.2.2.2.2.2.2.2.2.1) e42.2.2.2.2.2.2.2.2.2.2.2.1 e42.2.2.2.2.2.2.2.2.2.2.2.2.1 e42.2.2.2.2.2.2.2.2.2.2.2.2.2.1 e42.2.2.2.2.2.2.2.2.2.2.2.2.2.2.1 e42.2.2.2.2.2.2.2.2.2.2.2.2.2.2.2))
  |.inr r=>some r
instance OM{o0}:MA (pj o0) prog 165 (fun _=>8) fun r=>⟨[.ref 100000 0],[(100000,some (.bC 361 (aJ.b0 o0 (.row 100001) (.row 100002) (.row 100003) (.row 100004) (.row 100005)))),(100001,some (.R 2 1 (DV.int .i64) o0.aE.bG.ez)),(100002,some (.R 150 1 jm o0.aE.bG.cX)),(100003,some (.R 279 8 oc o0.aE.cZ)),(100004,some (.R 4 1 DV.bool o0.bX.aR)),(100005,some (.R 2 1 (DV.int .i64) o0.cy))],.gW [],[(100000,some (.bC 361 (aJ.b0 r (.row 100001) (.row 100002) (.row 50000) (.row 100004) (.row 50001)))),(100001,some (.R 2 1 (DV.int .i64) r.aE.bG.ez)),(100002,some (.R 150 1 jm r.aE.bG.cX)),(100004,some (.R 4 1 DV.bool r.bX.aR)),(50000,some (.R 279 8 oc r.aE.cZ)),(50001,some (.R 2 1 (DV.int .i64) r.cy)),(100003,none),(100005,none)],[50000,50001]⟩:=⟨fun hM=>by unfold pj at hM;exact ae func165 ntmps165⟩
noncomputable def yB(x0:cD)(x1:aL)(Jf:List Int)(Mw:Int)(Mx:Int)(Mz:List Int)(o0:List Bool):Option (bV×Int×(List Bool)) :=
 Bi (xh x0) fun v2=>
 If (v2 != 0) (
  rX [] (some ((bV.mk (aL.mk [] [] (aO.mk [])) [] 0),v2,o0)))<|
 If ((Jf.length:Int) != x0.dM) (
  rX [] (some ((bV.mk (aL.mk [] [] (aO.mk [])) [] 0),1,o0)))<|
 fO (E:=bV×Int×(List Bool)) () 28 [100000] [3,4,5,6,26,27] [3,4,5,6,100000] i2 i2 [] [] m64 (x0.rS.length:Int) (fun k3 _=>
  Bi (idx x0.rS (k3:Int)) fun pF=>
  Bi (cl 35 [] (ux pF x1 Jf Mw Mx Mz o0)) fun ob=>
  If (!ob) (
   rX [] (some (.done ((bV.mk (aL.mk [] [] (aO.mk [])) [] 0),1,o0))))<|
  nX [] [] (some (.next ()))) fun
  |.next _=>
   wk [.c 43 51300 0 2 1,.c 43 51301 1 150 1,.c 43 51303 3 279 8,.c 43 51311 11 2 1]<|
   Bi (cl 47 [(50000,47)] (kj Mz)) fun v6=>
   Bi (cl 56 [(100000,47)] (lK v6)) fun v8=>
   Bi (cl 60 [(50000,60)] (iu x1.ez)) fun v10=>
   Bi (cl 63 [(50000,63)] (eL x1.cX)) fun v12=>
   wk [.z 47]<|
   Bi (cl 71 [(100000,43),(100001,60),(100002,63),(100003,51303),(100004,100000),(100005,51311),(50000,10001),(50001,10002)] (pj (aJ.mk (bV.mk (aL.mk v10 v12 x1.dW) ([]:List cq) 0) x0.rS (dV.mk Jf Mw o0 Mx v8) ([]:List Int) 0 0 0 false))) fun qm=>
   wk [.z 60,.z 63,.z 10001]<|rX [] (some (qm.aE,0,qm.bX.aR))
  |.done r=>some r
instance ab3{x0 x1 Jf Mw Mx Mz o0}:MA (yB x0 x1 Jf Mw Mx Mz o0) prog 110 (fun _=>1) fun r=>⟨[.agg (CN x0),.agg (KJ x1),.agg [.L 1 (DV.int .i64) Jf,.I Mw,.row 100000,.I Mx,.L 1 (DV.int .i64) Mz]],[(100000,some (.R 4 1 DV.bool o0))],.gW [.agg (bV.cs r.1),.I r.2.1],[(100000,some (.R 4 1 DV.bool r.2.2))],[]⟩:=⟨fun hM=>by unfold yB at hM;exact ab func110 ntmps110⟩
noncomputable def yC(x0:List cq):Option Int :=
 fL 0 8 [] [6,7] [] (fun s t=>(3,.I s)::t) i2 [] [] m64 (x0.length:Int) (fun k1 s3=>
  Bi (idx x0 (k1:Int)) fun v5=>
  If ((v5.bw==3)||(v5.bw==4)) (
   nX [] [] (some (IntKind.wrap .i64 (s3+1))))<|
  nX [] [] (some s3)) fun s3=>
 some s3
instance ab4{x0}:MC (yC x0) fun r=>bx prog 112 [.L 8 oc x0] (.I r):=⟨fun hM=>by unfold yC at hM;exact pb func112 ntmps112⟩
noncomputable def iZ(x1:Int)(x2:Int)(o0:aj):Option aj :=
 Bi (fZ x1) fun v2=>
 If ((!v2)||(decide (x2≤0))) (
  rX [] (some o0))<|
 Bi (cl 22 [] (gX x1 x2 o0)) fun v4=>
 fL o0.bh 24 [100000,100001,100002] [0,1,2,22,23] [100000,100001] i2 (fun s t=>(100002,some (.mp (pN cM DV.bool s)))::t) [] [] m64 (v4.length:Int) (fun k5 s7=>
  Bi (idx v4 (k5:Int)) fun v12=>
  eT 0 nD v12 fun _=>
  eT 1 DV.bool true fun _=>
  nX [] [] (some (Hk cM s7 v12 true))) fun s7=>
 Ck (qv 8 x1)<|
 ea 38 (fun x=>[(DV.int .i64) x]) o0.dh<|
 Ck (qv 8 x1)<|
 ea 45 (fun x=>[(DV.int .i64) x]) o0.dh<|
 Ck (qv 8 x1)<|
 ea 52 (fun x=>[(DV.int .i64) x]) o0.dh<|
 eb 52 (IntKind.wrap .i64 ((o0.dh (Int.toNat x1))+(if (IntKind.wrap .i64 (9223372036854775807-(o0.dh (Int.toNat x1))))<x2 then(IntKind.wrap .i64 (9223372036854775807-(o0.dh (Int.toNat x1))))else x2)))<|
 rX [] (some ({ o0 with dh:=(xJ o0.dh (Int.toNat x1) (IntKind.wrap .i64 ((o0.dh (Int.toNat x1))+(if (IntKind.wrap .i64 (9223372036854775807-(o0.dh (Int.toNat x1))))<x2 then(IntKind.wrap .i64 (9223372036854775807-(o0.dh (Int.toNat x1))))else x2)))),bh:=s7 }:aj))
instance FO{x1 x2 o0}:MA (iZ x1 x2 o0) prog 111 (fun _=>3) fun r=>⟨[.ref 100000 0,.I x1,.I x2],[(100000,some (.bC 234 (aj.b0 o0 (.row 100001) (.row 100002)))),(100001,some (.R 130 4 da o0.df)),(100002,some (.mp (pN cM DV.bool o0.bh)))],.gW [],[(100000,some (.bC 234 (aj.b0 r (.row 100001) (.row 100002)))),(100001,some (.R 130 4 da r.df)),(100002,some (.mp (pN cM DV.bool r.bh)))],[]⟩:=⟨fun hM=>by unfold iZ at hM;exact ae func111 ntmps111⟩
@[reducible] noncomputable def lC(x1:Int)(x2:Int)(o0:aj)(Np:(List bZ)×(Nat→(Nat→Int))×(Nat→Int)×(Nat→Int)×(List aq)×(List aU)×(List (aH×Bool))):Option (Int×(List bZ)×aj) :=
 rX [] (some ((o0.cY (Int.toNat x1) (Int.toNat x2)),Np.1,(aj.mk (bS.mk Np.2.2.2.2.1) Np.2.2.2.2.2.1 Np.2.1 Np.2.2.1 Np.2.2.2.1 Np.2.2.2.2.2.2)))
@[reducible] noncomputable def lD(x1:Int)(x2:Int)(x3:Int)(x4:List Int)(o0:aj)(s40:Int×(Nat→(Nat→Int))×(Nat→Int)×(Nat→Int)×(List aq)×(List aU)×(List (aH×Bool))):Option (Int×(List bZ)×aj) :=
 Bi (gV (bZ.mk s40.1 x3 x4)) fun uG=>
 eT 96 (bA 3 xy) [uG] fun v24=>
 Ck (dL 40 (v24.length))<|
 jn (lC x1 x2 o0) 15 [100000,100001,100002] [14] [] (fun s t=>(15,.L 3 xy s.1)::t) (fun s t=>(100000,some (.bC 234 (aj.b0 (aj.mk (bS.mk s.2.2.2.2.1) [] s.2.1 s.2.2.1 s.2.2.2.1 []) (.row 100001) (.row 100002))))::(100001,some (.R 130 4 da s.2.2.2.2.2.1))::(100002,some (.mp (pN cM DV.bool s.2.2.2.2.2.2)))::t)<|
 Bi (cl 103 [] (fE 7 x1 x2 (o0.cY (Int.toNat x1) (Int.toNat x2)) (aj.mk (bS.mk s40.2.2.2.2.1) s40.2.2.2.2.2.1 s40.2.1 s40.2.2.1 s40.2.2.2.1 s40.2.2.2.2.2.2))) fun zh=>
 If zh.2.1 (
  Bi (gV (bZ.mk (IntKind.wrap .i64 (s40.1+zh.1.gD)) x3 x4)) fun v37=>
  eT 116 (bA 3 xy) [v37] fun Nn=>
  Ck (dL 40 (v24.length+List.length Nn))<|
  nX [.z 117] [] (lC x1 x2 o0 ((v24++Nn),zh.2.2.cY,zh.2.2.eG,zh.2.2.dh,zh.2.2.gf.aW,zh.2.2.df,zh.2.2.bh)))<|
 nX [.z 97] [] (lC x1 x2 o0 (v24,zh.2.2.cY,zh.2.2.eG,zh.2.2.dh,zh.2.2.gf.aW,zh.2.2.df,zh.2.2.bh))
noncomputable def kQ(x1:Int)(x2:Int)(x3:Int)(x4:List Int)(x5:Int)(x6:Int)(o0:aj):Option (Int×(List bZ)×aj) :=
 Bi (fZ x1) fun v2=>
 Bi (gb (!(!v2)) (false) (fZ x2)) fun v4=>
 If ((!v2)||(!v4)) (
  rX [] (some ((-1),([]:List bZ),o0)))<|
 Ck (qv 8 x1)<|
 Ck (qv 8 x2)<|
 ea 41 Ex o0.cY<|eb 41 (fun x=>[(DV.int .i64) x])<|
 Ck (qv 8 x1)<|
 Ck (qv 8 x2)<|
 ea 49 Ex o0.cY<|eb 49 (fun x=>[(DV.int .i64) x])<|
 Ck (qv 8 x1)<|
 Ck (qv 8 x2)<|
 ea 55 Ex o0.cY<|eb 55 (fun x=>[(DV.int .i64) x])<|
 eb 55 (IntKind.wrap .i64 ((o0.cY (Int.toNat x1) (Int.toNat x2))+1))<|
 Bi (cl 61 [] (js (ei.mk x1 x2 (o0.cY (Int.toNat x1) (Int.toNat x2))) ({ o0 with cY:=(xJ o0.cY (Int.toNat x1) (xJ (o0.cY (Int.toNat x1)) (Int.toNat x2) (IntKind.wrap .i64 ((o0.cY (Int.toNat x1) (Int.toNat x2))+1)))) }:aj))) fun v12=>
 If v12 (
  rX [] (some ((o0.cY (Int.toNat x1) (Int.toNat x2)),([]:List bZ),({ o0 with cY:=(xJ o0.cY (Int.toNat x1) (xJ (o0.cY (Int.toNat x1)) (Int.toNat x2) (IntKind.wrap .i64 ((o0.cY (Int.toNat x1) (Int.toNat x2))+1)))) }:aj))))<|
 Bi (cl 68 [] (fE 5 x1 x2 (o0.cY (Int.toNat x1) (Int.toNat x2)) ({ o0 with cY:=(xJ o0.cY (Int.toNat x1) (xJ (o0.cY (Int.toNat x1)) (Int.toNat x2) (IntKind.wrap .i64 ((o0.cY (Int.toNat x1) (Int.toNat x2))+1)))) }:aj))) fun qm=>
 If qm.2.1 (
  rX [] (some ((o0.cY (Int.toNat x1) (Int.toNat x2)),([]:List bZ),qm.2.2)))<|
 jn (lD x1 x2 x3 x4 o0) 11 [100000,100001,100002] [0,1,2,3,4,14,15] [] (fun s t=>(18,.I s.1)::t) (fun s t=>(100000,some (.bC 234 (aj.b0 (aj.mk (bS.mk s.2.2.2.2.1) [] s.2.1 s.2.2.1 s.2.2.2.1 []) (.row 100001) (.row 100002))))::(100001,some (.R 130 4 da s.2.2.2.2.2.1))::(100002,some (.mp (pN cM DV.bool s.2.2.2.2.2.2)))::t)<|
 Bi (cl 82 [] (fE 6 x1 x2 (o0.cY (Int.toNat x1) (Int.toNat x2)) qm.2.2)) fun En=>
 If En.2.1 (
  nX [] [] (lD x1 x2 x3 x4 o0 ((IntKind.wrap .i64 ((IntKind.wrap .i64 (x5+(if 1>x6 then 1 else x6)))+En.1.gD)),En.2.2.cY,En.2.2.eG,En.2.2.dh,En.2.2.gf.aW,En.2.2.df,En.2.2.bh)))<|
 nX [] [] (lD x1 x2 x3 x4 o0 ((IntKind.wrap .i64 (x5+(if 1>x6 then 1 else x6))),En.2.2.cY,En.2.2.eG,En.2.2.dh,En.2.2.gf.aW,En.2.2.df,En.2.2.bh))
instance IG{x1 x2 x3 x4 x5 x6 o0}:MA (kQ x1 x2 x3 x4 x5 x6 o0) prog 166 (fun _=>3) fun r=>⟨[.ref 100000 0,.I x1,.I x2,.I x3,.L 1 (DV.int .i64) x4,.I x5,.I x6],[(100000,some (.bC 234 (aj.b0 o0 (.row 100001) (.row 100002)))),(100001,some (.R 130 4 da o0.df)),(100002,some (.mp (pN cM DV.bool o0.bh)))],.gW [.I r.1,.L 3 xy r.2.1],[(100000,some (.bC 234 (aj.b0 r.2.2 (.row 100001) (.row 100002)))),(100001,some (.R 130 4 da r.2.2.df)),(100002,some (.mp (pN cM DV.bool r.2.2.bh)))],[]⟩:=⟨fun hM=>by unfold kQ at hM;exact ab func166 ntmps166⟩
@[reducible] noncomputable def pa(x1:Int)(o0:aj)(tF:Int×(Nat→(Nat→Int))×(Nat→Int)×(Nat→Int)×(List aq)×(List aU)×(List (aH×Bool))):Option (Int×Int×aj) :=
 rX [] (some ((o0.eG (Int.toNat x1)),tF.1,(aj.mk (bS.mk tF.2.2.2.2.1) tF.2.2.2.2.2.1 tF.2.1 tF.2.2.1 tF.2.2.2.1 tF.2.2.2.2.2.2)))
noncomputable def kq(x1:Int)(x2:Int)(o0:aj):Option (Int×Int×aj) :=
 Bi (fZ x1) fun v2=>
 If (!v2) (
  rX [] (some ((-1),x2,o0)))<|
 Ck (qv 8 x1)<|
 ea 22 (fun x=>[(DV.int .i64) x]) o0.eG<|
 Ck (qv 8 x1)<|
 ea 28 (fun x=>[(DV.int .i64) x]) o0.eG<|
 Ck (qv 8 x1)<|
 ea 33 (fun x=>[(DV.int .i64) x]) o0.eG<|
 eb 33 (IntKind.wrap .i64 ((o0.eG (Int.toNat x1))+1))<|
 jn (pa x1 o0) 5 [100000,100001,100002] [6] [] (fun s t=>(2,.I s.1)::t) (fun s t=>(100000,some (.bC 234 (aj.b0 (aj.mk (bS.mk s.2.2.2.2.1) [] s.2.1 s.2.2.1 s.2.2.2.1 []) (.row 100001) (.row 100002))))::(100001,some (.R 130 4 da s.2.2.2.2.2.1))::(100002,some (.mp (pN cM DV.bool s.2.2.2.2.2.2)))::t)<|
 Bi (cl 38 [] (fE 9 x1 0 (o0.eG (Int.toNat x1)) ({ o0 with eG:=(xJ o0.eG (Int.toNat x1) (IntKind.wrap .i64 ((o0.eG (Int.toNat x1))+1))) }:aj))) fun qs=>
 If qs.2.1 (
  nX [] [] (pa x1 o0 ((IntKind.wrap .i64 (x2+qs.1.gD)),qs.2.2.cY,qs.2.2.eG,qs.2.2.dh,qs.2.2.gf.aW,qs.2.2.df,qs.2.2.bh)))<|
 nX [] [] (pa x1 o0 (x2,qs.2.2.cY,qs.2.2.eG,qs.2.2.dh,qs.2.2.gf.aW,qs.2.2.df,qs.2.2.bh))
instance Ib{x1 x2 o0}:MA (kq x1 x2 o0) prog 168 (fun _=>3) fun r=>⟨[.ref 100000 0,.I x1,.I x2],[(100000,some (.bC 234 (aj.b0 o0 (.row 100001) (.row 100002)))),(100001,some (.R 130 4 da o0.df)),(100002,some (.mp (pN cM DV.bool o0.bh)))],.gW [.I r.1,.I r.2.1],[(100000,some (.bC 234 (aj.b0 r.2.2 (.row 100001) (.row 100002)))),(100001,some (.R 130 4 da r.2.2.df)),(100002,some (.mp (pN cM DV.bool r.2.2.bh)))],[]⟩:=⟨fun hM=>by unfold kq at hM;exact ab func168 ntmps168⟩
@[reducible] noncomputable def iP(Cx:dt×(List aq)×(List bU)×Int×(List aL)×(List Bool)×(List Int)×(List aN)×(List AEv)×(Nat→(Nat→Int))×(Nat→Int)×(Nat→Int)×(List aq)×(List aU)×(List (aH×Bool))×(List aD)):Option (Bool×ay×aj×aP) :=
 rX [(50000,10001),(50001,10002)] (some (false,(ay.mk Cx.1 Cx.2.1 Cx.2.2.1 () () Cx.2.2.2.1 (aN.mk Cx.2.2.2.2.1 Cx.2.2.2.2.2.1 Cx.2.2.2.2.2.2.1) Cx.2.2.2.2.2.2.2.1 Cx.2.2.2.2.2.2.2.2.1),(aj.mk (bS.mk Cx.2.2.2.2.2.2.2.2.2.2.2.2.1) Cx.2.2.2.2.2.2.2.2.2.2.2.2.2.1 Cx.2.2.2.2.2.2.2.2.2.1 Cx.2.2.2.2.2.2.2.2.2.2.1 Cx.2.2.2.2.2.2.2.2.2.2.2.1 Cx.2.2.2.2.2.2.2.2.2.2.2.2.2.2.1),(aP.mk Cx.2.2.2.2.2.2.2.2.2.2.2.2.2.2.2)))
@[reducible] noncomputable def nj(x1:Int)(x4:cq)(o0:ay)(o2:aj)(o5:aP)(Jg:Int):Option (Bool×ay×aj×aP) :=
 Bi (cl 111 [(100000,100002),(100001,100003),(100002,100004)] (kq x1 Jg o2)) fun HU=>
 Bi (cl 123 [(50000,10007)] (fq (AEv.mk 0 x1 9 0 HU.1 0 x4.bM Jg x4.bR) o0 HU.2.2 o5)) fun zh=>
 Bi (cl 133 [(100011,10007),(50000,10008)] (iw HU.2.1 (cJ.mk 6 x1 0 HU.1 0 x4.bM x4.bR) zh HU.2.2 o5)) fun v37=>
 nX [] [(10001,10007),(10002,10008)] (iP (zh.CJ,zh.mf,zh.sG,zh.rH,zh.ba.dw,zh.ba.aR,zh.ba.aX,zh.dS,zh.cj,HU.2.2.cY,HU.2.2.eG,HU.2.2.dh,HU.2.2.gf.aW,HU.2.2.df,HU.2.2.bh,v37.aW))
@[reducible] noncomputable def nb(x1:Int)(x3:Int)(o0:ay)(o2:aj)(o5:aP)(a41:Int)(a42:Int)(Ik:(List Int)):Option (Bool×ay×aj×aP) :=
 wk [.z 10011]<|
 Bi (cl 167 [(50000,10012)] (fq (AEv.mk 0 x1 10 a41 x3 a42 0 0 Ik) o0 o2 o5)) fun VI=>
 rX [(50000,10012),(50001,100006)] (some (true,VI,o2,o5))
@[reducible] noncomputable def nc(x1:Int)(x3:Int)(x4:cq)(o0:ay)(o2:aj)(o5:aP)(v40:List Int)(a41:Int)(s49:Int):Option (Bool×ay×aj×aP) :=
 jn (nb x1 x3 o0 o2 o5 a41 s49) 25 [100000,100001,100002,100003,100004,100005,100006,100007,100008,100009,100010,100011] [0,19] [100000,100001,100002,100003,100004,100005,100006,100007,100008,100009,100010,100011] i2 (fun s t=>(19,some (.bC 62 [.I 0,.I x1,.int .u8 10,.I a41,.I x3,.I s49,.I 0,.I 0,.row 10011]))::(10011,some (.R 2 1 (DV.int .i64) s))::t)<|
 If ((x4.bw==3)||(!x4.LK)) (
  eT 162 (bA 1 (DV.int .i64)) [x4.Rh] fun xv=>
  Ck (dL 8 (v40.length+List.length xv))<|
  nX [] [(10011,163)] (nb x1 x3 o0 o2 o5 a41 s49 (v40++xv)))<|
 nX [] [(10011,10010)] (nb x1 x3 o0 o2 o5 a41 s49 v40)
@[reducible] noncomputable def ng(x1:Int)(x3:Int)(x4:cq)(o0:ay)(o2:aj)(o5:aP)(v40:List Int)(s50:Int):Option (Bool×ay×aj×aP) :=
 jn (nc x1 x3 x4 o0 o2 o5 v40 s50) 23 [100000,100001,100002,100003,100004,100005,100006,100007,100008,100009,100010,100011] [0,9,19] [9,100000,100001,100002,100003,100004,100005,100006,100007,100008,100009,100010,100011] i2 (fun s t=>(19,some (.bC 62 [.I 0,.I x1,.int .u8 10,.I s50,.I x3,.I s,.I 0,.I 0,.row 10010]))::(10010,some (.R 2 1 (DV.int .i64) v40))::t)<|
 If x4.LK (
  nX [] [(10010,10009)] (nc x1 x3 x4 o0 o2 o5 v40 s50 1))<|
 nX [] [(10010,10009)] (nc x1 x3 x4 o0 o2 o5 v40 s50 0)
@[reducible] noncomputable def ni(x1:Int)(x2:Int)(x3:Int)(x4:cq)(o0:ay)(o2:aj)(o5:aP)(TH:Bool):Option (Bool×ay×aj×aP) :=
 If TH (
  eT 141 (bA 1 (DV.int .i64)) [x4.cG] fun v40=>
  jn (ng x1 x3 x4 o0 o2 o5 v40) 21 [100000,100001,100002,100003,100004,100005,100006,100007,100008,100009,100010,100011] [0,9,19] [9,100000,100001,100002,100003,100004,100005,100006,100007,100008,100009,100010,100011] i2 (fun s t=>(19,some (.bC 62 [.I 0,.I x1,.int .u8 10,.I s,.I x3,.I 0,.I 0,.I 0,.row 10009]))::(10009,some (.R 2 1 (DV.int .i64) v40))::t)<|
  If (x4.bw==4) (
   nX [] [(10009,141)] (ng x1 x3 x4 o0 o2 o5 v40 1))<|
  nX [] [(10009,141)] (ng x1 x3 x4 o0 o2 o5 v40 0))<|
 If (x4.bw==5) (
  Bi (cl 174 [(50000,10013)] (fq (AEv.mk 0 x1 11 0 0 0 x2 0 []) o0 o2 o5)) fun GB=>
  nX [] [(10001,10013),(10002,100006)] (iP (GB.CJ,GB.mf,GB.sG,GB.rH,GB.ba.dw,GB.ba.aR,GB.ba.aX,GB.dS,GB.cj,o2.cY,o2.eG,o2.dh,o2.gf.aW,o2.df,o2.bh,o5.aW)))<|
 nX [] [(10001,100011),(10002,100006)] (iP (o0.CJ,o0.mf,o0.sG,o0.rH,o0.ba.dw,o0.ba.aR,o0.ba.aX,o0.dS,o0.cj,o2.cY,o2.eG,o2.dh,o2.gf.aW,o2.df,o2.bh,o5.aW))
noncomputable def mC(x1:Int)(x2:Int)(x3:Int)(x4:cq)(o0:ay)(o2:aj)(o5:aP):Option (Bool×ay×aj×aP) :=
 jn iP 1 [100000,100001,100002,100003,100004,100005,100006,100007,100008,100009,100010,100011] [] [] i2 (fun s t=>(10001,some (.R 62 9 AEv.dv s.2.2.2.2.2.2.2.2.1))::(10002,some (.R 255 8 dm s.2.2.2.2.2.2.2.2.2.2.2.2.2.2.2))::(100000,some (.bC 145 (ay.b0 (ay.mk s.1 [] s.2.2.1 () () s.2.2.2.1 (aN.mk [] [] []) [] []) (.row 100001) (.ref 100002 0) (.ref 100005 0) (.row 100007) (.row 100008) (.row 100009) (.row 100010) (.row 10001))))::(100001,some (.R 123 7 cW s.2.1))::(100002,some (.bC 234 (aj.b0 (aj.mk (bS.mk s.2.2.2.2.2.2.2.2.2.2.2.2.1) [] s.2.2.2.2.2.2.2.2.2.1 s.2.2.2.2.2.2.2.2.2.2.1 s.2.2.2.2.2.2.2.2.2.2.2.1 []) (.row 100003) (.row 100004))))::(100003,some (.R 130 4 da s.2.2.2.2.2.2.2.2.2.2.2.2.2.1))::(100004,some (.mp (pN cM DV.bool s.2.2.2.2.2.2.2.2.2.2.2.2.2.2.1)))::(100005,some (.bC 240 [.row 10002]))::(100007,some (.R 152 3 ff s.2.2.2.2.1))::(100008,some (.R 4 1 DV.bool s.2.2.2.2.2.1))::(100009,some (.R 3 1 (DV.int .i64) s.2.2.2.2.2.2.1))::(100010,some (.R 143 3 fH s.2.2.2.2.2.2.2.1))::t)<|
 If (x4.bw==1) (
  Bi (nT o0.CJ.fx x1 x4.uS) fun xw=>
  Bi (cl 49 [(100000,100002),(100001,100003),(100002,100004)] (kQ x1 x4.uS x4.bM x4.bR o0.rH xw o2)) fun v21=>
  Bi (cl 62 [(50000,10003)] (fq (AEv.mk 0 x1 8 x4.uS v21.1 0 x4.bM 0 x4.bR) o0 v21.2.2 o5)) fun uG=>
  fL o5.aW 65 [100000,100001,100002,100003,100004,100005,100006,100007,100008,100009,100010,100011] [0,1,9,11,63,64] [9,100001,100002,100003,100004,100007,100008,100009,100010] i2 (fun s t=>(10004,some (.R 62 9 AEv.dv uG.cj))::(10005,some (.R 255 8 dm s))::(100000,some (.bC 145 (ay.b0 ({ uG with ba:=(aN.mk [] [] []) }:ay) (.row 100001) (.ref 100002 0) (.ref 100005 0) (.row 100007) (.row 100008) (.row 100009) (.row 100010) (.row 10004))))::(100005,some (.bC 240 [.row 10005]))::t) [] [(10004,10003),(10005,100006)] m64 (v21.2.1.length:Int) (fun k24 s26=>
   Bi (idx v21.2.1 (k24:Int)) fun v28=>
   Bi (cl 83 [(100006,10005),(100011,10004),(50000,10006)] (iw v28.AN (cJ.mk 5 x4.uS x1 v21.1 (k24:Int) v28.bM v28.bR) uG v21.2.2 (aP.mk s26))) fun v30=>
   nX [] [(10005,10006)] (some v30.aW)) fun s26=>
  nX [] [(10001,10004),(10002,10005)] (iP (uG.CJ,uG.mf,uG.sG,uG.rH,uG.ba.dw,uG.ba.aR,uG.ba.aX,uG.dS,uG.cj,v21.2.2.cY,v21.2.2.eG,v21.2.2.dh,v21.2.2.gf.aW,v21.2.2.df,v21.2.2.bh,s26)))<|
 If (x4.bw==2) (
  jn (nj x1 x4 o0 o2 o5) 12 [100000,100001,100002,100003,100004,100005,100006,100007,100008,100009,100010,100011] [0,1,9] [9,100000,100001,100002,100003,100004,100005,100006,100007,100008,100009,100010,100011] (fun s t=>(15,.I s)::t) i2<|
  If (decide ((if x4.EX>1 then x4.EX else 1)<(IntKind.wrap .i64 (2147483647-o0.rH)))) (
   nX [] [] (nj x1 x4 o0 o2 o5 (IntKind.wrap .i64 (o0.rH+(if x4.EX>1 then x4.EX else 1)))))<|
  nX [] [] (nj x1 x4 o0 o2 o5 2147483647))<|
 jn (ni x1 x2 x3 x4 o0 o2 o5) 18 [100000,100001,100002,100003,100004,100005,100006,100007,100008,100009,100010,100011] [0,1,2,3,9,21] [9,100000,100001,100002,100003,100004,100005,100006,100007,100008,100009,100010,100011] (fun s t=>(134,.bool s)::t) i2<|
 If (x4.bw==3) (
  nX [] [] (ni x1 x2 x3 x4 o0 o2 o5 (x4.bw==3)))<|
 nX [] [] (ni x1 x2 x3 x4 o0 o2 o5 (x4.bw==4))
instance Lf{x1 x2 x3 x4 o0 o2 o5}:MA (mC x1 x2 x3 x4 o0 o2 o5) prog 113 (fun _=>14) fun r=>⟨[.ref 100000 0,.I x1,.I x2,.I x3,.agg (Wz x4)],[(100000,some (.bC 145 (ay.b0 ({ o0 with ba:=(aN.mk [] [] []) }:ay) (.row 100001) (.ref 100002 0) (.ref 100005 0) (.row 100007) (.row 100008) (.row 100009) (.row 100010) (.row 100011)))),(100001,some (.R 123 7 cW o0.mf)),(100002,some (.bC 234 (aj.b0 o2 (.row 100003) (.row 100004)))),(100003,some (.R 130 4 da o2.df)),(100004,some (.mp (pN cM DV.bool o2.bh))),(100005,some (.bC 240 [.row 100006])),(100006,some (.R 255 8 dm o5.aW)),(100007,some (.R 152 3 ff o0.ba.dw)),(100008,some (.R 4 1 DV.bool o0.ba.aR)),(100009,some (.R 3 1 (DV.int .i64) o0.ba.aX)),(100010,some (.R 143 3 fH o0.dS)),(100011,some (.R 62 9 AEv.dv o0.cj))],.bool r.1,[(100000,some (.bC 145 (ay.b0 ({ r.2.1 with ba:=(aN.mk [] [] []) }:ay) (.row 100001) (.ref 100002 0) (.ref 100005 0) (.row 100007) (.row 100008) (.row 100009) (.row 100010) (.row 50000)))),(100002,some (.bC 234 (aj.b0 r.2.2.1 (.row 100003) (.row 100004)))),(100005,some (.bC 240 [.row 50001])),(100001,some (.R 123 7 cW r.2.1.mf)),(100003,some (.R 130 4 da r.2.2.1.df)),(100004,some (.mp (pN cM DV.bool r.2.2.1.bh))),(100007,some (.R 152 3 ff r.2.1.ba.dw)),(100008,some (.R 4 1 DV.bool r.2.1.ba.aR)),(100009,some (.R 3 1 (DV.int .i64) r.2.1.ba.aX)),(100010,some (.R 143 3 fH r.2.1.dS)),(50000,some (.R 62 9 AEv.dv r.2.1.cj)),(50001,some (.R 255 8 dm r.2.2.2.aW)),(100006,none),(100011,none)],[50000,50001]⟩:=⟨fun hM=>by unfold mC at hM;exact ab func113 ntmps113⟩
noncomputable def mE(x1:cJ)(o0:ay)(o2:aj)(o5:aP)(VJ:Nat→Int):Option (ay×aj×aP×(Nat→Int)) :=
 Bi (idx o0.ba.aX x1.bo) fun v2=>
 Bi (ph o0.CJ.fx x1.bo v2 x1.bM) fun v4=>
 Ck ((!((!v4.2)||(v4.1 != (x1.bR.length:Int))))=true→qv 8 x1.bM)<|
 ea 72 (fun x=>[(DV.int .i64) x]) VJ<|
 If (((!v4.2)||(v4.1 != (x1.bR.length:Int)))||(decide (8≤(VJ (Int.toNat x1.bM))))) (
  Bi (cl 83 [(50000,10001)] (fq (AEv.mk 0 x1.bo 7 x1.pd x1.gN x1.kV x1.bM (IntKind.wrap .i64 x1.pB) x1.bR) o0 o2 o5)) fun v7=>
  rX [(50000,10001),(50001,100006)] (some (v7,o2,o5,VJ)))<|
 Ck (qv 8 x1.bM)<|
 ea 88 (fun x=>[(DV.int .i64) x]) VJ<|
 Ck (qv 8 x1.bM)<|
 ea 92 (fun x=>[(DV.int .i64) x]) VJ<|
 eb 92 (IntKind.wrap .i64 ((VJ (Int.toNat x1.bM))+1))<|
 Bi (cl 95 [(50000,10002)] (fq (AEv.mk 0 x1.bo x1.pB x1.pd x1.gN x1.kV x1.bM 0 x1.bR) o0 o2 o5)) fun v11=>
 Bi (qP o0.CJ.fx x1.bo v2 x1.bM) fun mU=>
 Bi (cl 111 [(100000,100002),(100001,100003),(100002,100004)] (kU x1.bo 200 o2)) fun qs=>
 Bi (idx v11.ba.dw x1.bo) fun qt=>
 Bi (cl 138 [(100000,100008)] (yB mU.1 qt x1.bR v11.rH qs.1 qs.2 v11.ba.aR)) fun xw=>
 If (xw.2.1 != 0) (
  rX [(50000,10002),(50001,100006)] (some (({ v11 with ba:=({ v11.ba with aR:=xw.2.2 }:aN) }:ay),o2,o5,(xJ VJ (Int.toNat x1.bM) (IntKind.wrap .i64 ((VJ (Int.toNat x1.bM))+1))))))<|
 eT 151 ff xw.1.bG fun v20=>
 Bi (yC xw.1.cZ) fun vX=>
 Bi (cl 160 [(100000,100002),(100001,100003),(100002,100004)] (iZ x1.bo vX o2)) fun v24=>
 fL (qs.1,v11.CJ,v11.mf,v11.sG,v11.rH,(List.set v11.ba.dw (Int.toNat x1.bo) v20),xw.2.2,v11.ba.aX,v11.dS,v11.cj,v24.cY,v24.eG,v24.dh,v24.gf.aW,v24.df,v24.bh,o5.aW) 164 [100000,100001,100002,100003,100004,100005,100006,100007,100008,100009,100010,100011,100012] [0,4,7,162,163] [4,100012] (fun s t=>(14,.I s.1)::t) (fun s t=>(10003,some (.R 62 9 AEv.dv s.2.2.2.2.2.2.2.2.2.1))::(10004,some (.R 255 8 dm s.2.2.2.2.2.2.2.2.2.2.2.2.2.2.2.2))::(100000,some (.bC 145 (ay.b0 (ay.mk s.2.1 [] s.2.2.2.1 () () s.2.2.2.2.1 (aN.mk [] [] []) [] []) (.row 100001) (.ref 100002 0) (.ref 100005 0) (.row 100007) (.row 100008) (.row 100009) (.row 100010) (.row 10003))))::(100001,some (.R 123 7 cW s.2.2.1))::(100002,some (.bC 234 (aj.b0 (aj.mk (bS.mk s.2.2.2.2.2.2.2.2.2.2.2.2.2.1) [] s.2.2.2.2.2.2.2.2.2.2.1 s.2.2.2.2.2.2.2.2.2.2.2.1 s.2.2.2.2.2.2.2.2.2.2.2.2.1 []) (.row 100003) (.row 100004))))::(100003,some (.R 130 4 da s.2.2.2.2.2.2.2.2.2.2.2.2.2.2.1))::(100004,some (.mp (pN cM DV.bool s.2.2.2.2.2.2.2.2.2.2.2.2.2.2.2.1)))::(100005,some (.bC 240 [.row 10004]))::(100007,some (.R 152 3 ff s.2.2.2.2.2.1))::(100008,some (.R 4 1 DV.bool s.2.2.2.2.2.2.1))::(100009,some (.R 3 1 (DV.int .i64) s.2.2.2.2.2.2.2.1))::(100010,some (.R 143 3 fH s.2.2.2.2.2.2.2.2.1))::t) [] [(10003,10002),(10004,100006)] m64 (xw.1.cZ.length:Int) (fun k25 AW=>
  Bi (idx xw.1.cZ (k25:Int)) fun VI=>
  Bi (cl 174 [(100006,10004),(100011,10003),(50000,10005),(50001,10006)] (mC x1.bo x1.bM AW.1 VI (ay.mk AW.2.1 AW.2.2.1 AW.2.2.2.1 () () AW.2.2.2.2.1 (aN.mk AW.2.2.2.2.2.1 AW.2.2.2.2.2.2.1 AW.2.2.2.2.2.2.2.1) AW.2.2.2.2.2.2.2.2.1 AW.2.2.2.2.2.2.2.2.2.1) (aj.mk (bS.mk AW.2.2.2.2.2.2.2.2.2.2.2.2.2.1) AW.2.2.2.2.2.2.2.2.2.2.2.2.2.2.1 AW.2.2.2.2.2.2.2.2.2.2.1 AW.2.2.2.2.2.2.2.2.2.2.2.1 AW.2.2.2.2.2.2.2.2.2.2.2.2.1 AW.2.2.2.2.2.2.2.2.2.2.2.2.2.2.2.1) (aP.mk AW.2.2.2.2.2.2.2.2.2.2.2.2.2.2.2.2))) fun xv=>
  If xv.1 (
   nX [] [(10003,10005),(10004,10006)] (some ((IntKind.wrap .i64 (AW.1+1)),xv.2.1.CJ,xv.2.1.mf,xv.2.1.sG,xv.2.1.rH,xv.2.1.ba.dw,xv.2.1.ba.aR,xv.2.1.ba.aX,xv.2.1.dS,xv.2.1.cj,xv.2.2.1.cY,xv.2.2.1.eG,xv.2.2.1.dh,xv.2.2.1.gf.aW,xv.2.2.1.df,xv.2.2.1.bh,xv.2.2.2.aW)))<|
  nX [] [(10003,10005),(10004,10006)] (some (AW.1,xv.2.1.CJ,xv.2.1.mf,xv.2.1.sG,xv.2.1.rH,xv.2.1.ba.dw,xv.2.1.ba.aR,xv.2.1.ba.aX,xv.2.1.dS,xv.2.1.cj,xv.2.2.1.cY,xv.2.2.1.eG,xv.2.2.1.dh,xv.2.2.1.gf.aW,xv.2.2.1.df,xv.2.2.1.bh,xv.2.2.2.aW))) fun AW=>
 rX [(50000,10003),(50001,10004)] (some ((ay.mk AW.2.1 AW.2.2.1 AW.2.2.2.1 () () AW.2.2.2.2.1 (aN.mk AW.2.2.2.2.2.1 AW.2.2.2.2.2.2.1 AW.2.2.2.2.2.2.2.1) AW.2.2.2.2.2.2.2.2.1 AW.2.2.2.2.2.2.2.2.2.1),(aj.mk (bS.mk AW.2.2.2.2.2.2.2.2.2.2.2.2.2.1) AW.2.2.2.2.2.2.2.2.2.2.2.2.2.2.1 AW.2.2.2.2.2.2.2.2.2.2.1 AW.2.2.2.2.2.2.2.2.2.2.2.1 AW.2.2.2.2.2.2.2.2.2.2.2.2.1 AW.2.2.2.2.2.2.2.2.2.2.2.2.2.2.2.1),(aP.mk AW.2.2.2.2.2.2.2.2.2.2.2.2.2.2.2.2),(xJ VJ (Int.toNat x1.bM) (IntKind.wrap .i64 ((VJ (Int.toNat x1.bM))+1)))))
instance Lh{x1 o0 o2 o5 VJ}:MA (mE x1 o0 o2 o5 VJ) prog 59 (fun _=>15) fun r=>⟨[.ref 100000 0,.agg (CM x1),.ref 100012 0],[(100000,some (.bC 145 (ay.b0 ({ o0 with ba:=(aN.mk [] [] []) }:ay) (.row 100001) (.ref 100002 0) (.ref 100005 0) (.row 100007) (.row 100008) (.row 100009) (.row 100010) (.row 100011)))),(100001,some (.R 123 7 cW o0.mf)),(100002,some (.bC 234 (aj.b0 o2 (.row 100003) (.row 100004)))),(100003,some (.R 130 4 da o2.df)),(100004,some (.mp (pN cM DV.bool o2.bh))),(100005,some (.bC 240 [.row 100006])),(100006,some (.R 255 8 dm o5.aW)),(100007,some (.R 152 3 ff o0.ba.dw)),(100008,some (.R 4 1 DV.bool o0.ba.aR)),(100009,some (.R 3 1 (DV.int .i64) o0.ba.aX)),(100010,some (.R 143 3 fH o0.dS)),(100011,some (.R 62 9 AEv.dv o0.cj)),(100012,some (.bC 156 (Ex VJ)))],.gW [],[(100000,some (.bC 145 (ay.b0 ({ r.1 with ba:=(aN.mk [] [] []) }:ay) (.row 100001) (.ref 100002 0) (.ref 100005 0) (.row 100007) (.row 100008) (.row 100009) (.row 100010) (.row 50000)))),(100002,some (.bC 234 (aj.b0 r.2.1 (.row 100003) (.row 100004)))),(100005,some (.bC 240 [.row 50001])),(100012,some (.bC 156 (Ex r.2.2.2))),(100001,some (.R 123 7 cW r.1.mf)),(100003,some (.R 130 4 da r.2.1.df)),(100004,some (.mp (pN cM DV.bool r.2.1.bh))),(100007,some (.R 152 3 ff r.1.ba.dw)),(100008,some (.R 4 1 DV.bool r.1.ba.aR)),(100009,some (.R 3 1 (DV.int .i64) r.1.ba.aX)),(100010,some (.R 143 3 fH r.1.dS)),(50000,some (.R 62 9 AEv.dv r.1.cj)),(50001,some (.R 255 8 dm r.2.2.1.aW)),(100006,none),(100011,none)],[50000,50001]⟩:=⟨fun hM=>by unfold mE at hM;exact ae func59 ntmps59⟩
noncomputable def vz(o0:List aL)(o1:List Bool)(o2:List Int):Option aN :=
 Ck (iJ 72 (o0.length:Int) (o0.length:Int))<|
 eT 7 ff (aL.mk [] [] (aO.mk [])) fun _=>
 Ck (iJ 1 (o1.length:Int) (o1.length:Int))<|
 eT 11 DV.bool false fun _=>
 Ck (iJ 8 (o2.length:Int) (o2.length:Int))<|
 eT 15 (DV.int .i64) 0 fun _=>
 wk [.z 7,.z 11,.z 15]<|rX [] (some (aN.mk (IU (List.replicate (Int.toNat (o0.length:Int)) (aL.mk [] [] (aO.mk []))) o0) (IU (List.replicate (Int.toNat (o1.length:Int)) false) o1) (IU (List.replicate (Int.toNat (o2.length:Int)) (0:Int)) o2)))
instance Xt{o0 o1 o2}:MA (vz o0 o1 o2) prog 60 (fun _=>0) fun r=>⟨[.agg [.row 100000,.row 100001,.row 100002]],[(100000,some (.R 152 3 ff o0)),(100001,some (.R 4 1 DV.bool o1)),(100002,some (.R 3 1 (DV.int .i64) o2))],.agg (GH r),[(100000,some (.R 152 3 ff o0)),(100001,some (.R 4 1 DV.bool o1)),(100002,some (.R 3 1 (DV.int .i64) o2))],[]⟩:=⟨fun hM=>by unfold vz at hM;exact ab func60 ntmps60⟩
noncomputable def oW(o0:ay)(o2:aj)(o5:aP):Option (Bool×ay×aj×aP) :=
 Bi (cl 10 [] (lY o0 o2 o5)) fun v2=>
 If (v2||(decide (o0.CJ.mL<o0.rH))) (
  rX [(50000,100010),(50001,100011),(50002,100006)] (some (false,o0,o2,o5)))<|
 Bi (fb o0.CJ.fx) fun v4=>
 Bi (cl 30 [(50000,10001)] (oV o0 o2 o5)) fun v6=>
 fL (v6.1.CJ,v6.1.mf,v6.1.sG,v6.1.rH,v6.1.ba.dw,v6.1.ba.aR,v6.1.ba.aX,v6.1.dS,v6.1.cj,v6.2.cY,v6.2.eG,v6.2.dh,v6.2.gf.aW,v6.2.df,v6.2.bh,o5.aW) 32 [100000,100001,100002,100003,100004,100005,100006,100007,100008,100009,100010,100011] [0,3,31] [] i2 (fun s t=>(10002,some (.R 62 9 AEv.dv s.2.2.2.2.2.2.2.2.1))::(10003,some (.R 255 8 dm s.2.2.2.2.2.2.2.2.2.2.2.2.2.2.2))::(100000,some (.bC 145 (ay.b0 (ay.mk s.1 [] s.2.2.1 () () s.2.2.2.1 (aN.mk [] [] []) [] []) (.row 100001) (.ref 100002 0) (.ref 100005 0) (.row 100007) (.row 100008) (.row 100009) (.row 100010) (.row 10002))))::(100001,some (.R 123 7 cW s.2.1))::(100002,some (.bC 234 (aj.b0 (aj.mk (bS.mk s.2.2.2.2.2.2.2.2.2.2.2.2.1) [] s.2.2.2.2.2.2.2.2.2.1 s.2.2.2.2.2.2.2.2.2.2.1 s.2.2.2.2.2.2.2.2.2.2.2.1 []) (.row 100003) (.row 100004))))::(100003,some (.R 130 4 da s.2.2.2.2.2.2.2.2.2.2.2.2.2.1))::(100004,some (.mp (pN cM DV.bool s.2.2.2.2.2.2.2.2.2.2.2.2.2.2.1)))::(100005,some (.bC 240 [.row 10003]))::(100007,some (.R 152 3 ff s.2.2.2.2.1))::(100008,some (.R 4 1 DV.bool s.2.2.2.2.2.1))::(100009,some (.R 3 1 (DV.int .i64) s.2.2.2.2.2.2.1))::(100010,some (.R 143 3 fH s.2.2.2.2.2.2.2.1))::t) [] [(10002,10001),(10003,100006)] m64 v4 (fun k7 xX=>
  Bi (cl 37 [(100006,10003),(100011,10002),(50000,10012),(50001,10013)] (nQ (k7:Int) (ay.mk xX.1 xX.2.1 xX.2.2.1 () () xX.2.2.2.1 (aN.mk xX.2.2.2.2.1 xX.2.2.2.2.2.1 xX.2.2.2.2.2.2.1) xX.2.2.2.2.2.2.2.1 xX.2.2.2.2.2.2.2.2.1) (aj.mk (bS.mk xX.2.2.2.2.2.2.2.2.2.2.2.2.1) xX.2.2.2.2.2.2.2.2.2.2.2.2.2.1 xX.2.2.2.2.2.2.2.2.2.1 xX.2.2.2.2.2.2.2.2.2.2.1 xX.2.2.2.2.2.2.2.2.2.2.2.1 xX.2.2.2.2.2.2.2.2.2.2.2.2.2.2.1) (aP.mk xX.2.2.2.2.2.2.2.2.2.2.2.2.2.2.2))) fun v75=>
  Bi (cl 40 [(100006,10013),(100011,10012),(50000,10014)] (mD (k7:Int) v75.1 v75.2.1 v75.2.2)) fun GC=>
  nX [] [(10002,10014),(10003,10013)] (some (GC.1.CJ,GC.1.mf,GC.1.sG,GC.1.rH,GC.1.ba.dw,GC.1.ba.aR,GC.1.ba.aX,GC.1.dS,GC.1.cj,GC.2.cY,GC.2.eG,GC.2.dh,GC.2.gf.aW,GC.2.df,GC.2.bh,v75.2.2.aW))) fun xX=>
 Bi (cl 43 [(100006,10003),(100011,10002),(50000,10004)] (mB (ay.mk xX.1 xX.2.1 xX.2.2.1 () () xX.2.2.2.1 (aN.mk xX.2.2.2.2.1 xX.2.2.2.2.2.1 xX.2.2.2.2.2.2.1) xX.2.2.2.2.2.2.2.1 xX.2.2.2.2.2.2.2.2.1) (aj.mk (bS.mk xX.2.2.2.2.2.2.2.2.2.2.2.2.1) xX.2.2.2.2.2.2.2.2.2.2.2.2.2.1 xX.2.2.2.2.2.2.2.2.2.1 xX.2.2.2.2.2.2.2.2.2.2.1 xX.2.2.2.2.2.2.2.2.2.2.2.1 xX.2.2.2.2.2.2.2.2.2.2.2.2.2.2.1) (aP.mk xX.2.2.2.2.2.2.2.2.2.2.2.2.2.2.2))) fun yN=>
 fL (xX.1,xX.2.1,xX.2.2.1,xX.2.2.2.1,xX.2.2.2.2.1,xX.2.2.2.2.2.1,xX.2.2.2.2.2.2.1,xX.2.2.2.2.2.2.2.1,xX.2.2.2.2.2.2.2.2.1,yN.1.cY,yN.1.eG,yN.1.dh,yN.1.gf.aW,yN.1.df,yN.1.bh,yN.2.aW) 45 [100000,100001,100002,100003,100004,100005,100006,100007,100008,100009,100010,100011] [0,44] [] i2 (fun s t=>(10005,some (.R 62 9 AEv.dv s.2.2.2.2.2.2.2.2.1))::(10006,some (.R 255 8 dm s.2.2.2.2.2.2.2.2.2.2.2.2.2.2.2))::(100000,some (.bC 145 (ay.b0 (ay.mk s.1 [] s.2.2.1 () () s.2.2.2.1 (aN.mk [] [] []) [] []) (.row 100001) (.ref 100002 0) (.ref 100005 0) (.row 100007) (.row 100008) (.row 100009) (.row 100010) (.row 10005))))::(100001,some (.R 123 7 cW s.2.1))::(100002,some (.bC 234 (aj.b0 (aj.mk (bS.mk s.2.2.2.2.2.2.2.2.2.2.2.2.1) [] s.2.2.2.2.2.2.2.2.2.1 s.2.2.2.2.2.2.2.2.2.2.1 s.2.2.2.2.2.2.2.2.2.2.2.1 []) (.row 100003) (.row 100004))))::(100003,some (.R 130 4 da s.2.2.2.2.2.2.2.2.2.2.2.2.2.1))::(100004,some (.mp (pN cM DV.bool s.2.2.2.2.2.2.2.2.2.2.2.2.2.2.1)))::(100005,some (.bC 240 [.row 10006]))::(100007,some (.R 152 3 ff s.2.2.2.2.1))::(100008,some (.R 4 1 DV.bool s.2.2.2.2.2.1))::(100009,some (.R 3 1 (DV.int .i64) s.2.2.2.2.2.2.1))::(100010,some (.R 143 3 fH s.2.2.2.2.2.2.2.1))::t) [] [(10005,10002),(10006,10004)] m64 v4 (fun k27 zV=>
  Bi (cl 57 [(100000,100005),(100001,10006),(50000,10007)] (mS zV.2.2.2.1 (k27:Int) (aP.mk zV.2.2.2.2.2.2.2.2.2.2.2.2.2.2.2))) fun Nq=>
  fL (zV.1,zV.2.1,zV.2.2.1,zV.2.2.2.1,zV.2.2.2.2.1,zV.2.2.2.2.2.1,zV.2.2.2.2.2.2.1,zV.2.2.2.2.2.2.2.1,zV.2.2.2.2.2.2.2.2.1,(arr 0 [0,0,0,0,0,0,0,0]),zV.2.2.2.2.2.2.2.2.2.1,zV.2.2.2.2.2.2.2.2.2.2.1,zV.2.2.2.2.2.2.2.2.2.2.2.1,zV.2.2.2.2.2.2.2.2.2.2.2.2.1,zV.2.2.2.2.2.2.2.2.2.2.2.2.2.1,zV.2.2.2.2.2.2.2.2.2.2.2.2.2.2.1,Nq.2.aW) 59 [100000,100001,100002,100003,100004,100005,100006,100007,100008,100009,100010,100011] [0,6,44,45,57,58] [] i2 (fun s t=>(6,some (.bC 156 (Ex s.2.2.2.2.2.2.2.2.2.1)))::(10008,some (.R 62 9 AEv.dv s.2.2.2.2.2.2.2.2.1))::(10009,some (.R 255 8 dm s.2.2.2.2.2.2.2.2.2.2.2.2.2.2.2.2))::(100000,some (.bC 145 (ay.b0 (ay.mk s.1 [] s.2.2.1 () () s.2.2.2.1 (aN.mk [] [] []) [] []) (.row 100001) (.ref 100002 0) (.ref 100005 0) (.row 100007) (.row 100008) (.row 100009) (.row 100010) (.row 10008))))::(100001,some (.R 123 7 cW s.2.1))::(100002,some (.bC 234 (aj.b0 (aj.mk (bS.mk s.2.2.2.2.2.2.2.2.2.2.2.2.2.1) [] s.2.2.2.2.2.2.2.2.2.2.1 s.2.2.2.2.2.2.2.2.2.2.2.1 s.2.2.2.2.2.2.2.2.2.2.2.2.1 []) (.row 100003) (.row 100004))))::(100003,some (.R 130 4 da s.2.2.2.2.2.2.2.2.2.2.2.2.2.2.1))::(100004,some (.mp (pN cM DV.bool s.2.2.2.2.2.2.2.2.2.2.2.2.2.2.2.1)))::(100005,some (.bC 240 [.row 10009]))::(100007,some (.R 152 3 ff s.2.2.2.2.1))::(100008,some (.R 4 1 DV.bool s.2.2.2.2.2.1))::(100009,some (.R 3 1 (DV.int .i64) s.2.2.2.2.2.2.1))::(100010,some (.R 143 3 fH s.2.2.2.2.2.2.2.1))::t) [] [(10008,10005),(10009,10007)] m64 (Nq.1.length:Int) (fun k51 Cm=>
   Bi (idx Nq.1 (k51:Int)) fun v71=>
   Bi (cl 65 [(100006,10009),(100011,10008),(100012,6),(50000,10010),(50001,10011)] (mE v71 (ay.mk Cm.1 Cm.2.1 Cm.2.2.1 () () Cm.2.2.2.1 (aN.mk Cm.2.2.2.2.1 Cm.2.2.2.2.2.1 Cm.2.2.2.2.2.2.1) Cm.2.2.2.2.2.2.2.1 Cm.2.2.2.2.2.2.2.2.1) (aj.mk (bS.mk Cm.2.2.2.2.2.2.2.2.2.2.2.2.2.1) Cm.2.2.2.2.2.2.2.2.2.2.2.2.2.2.1 Cm.2.2.2.2.2.2.2.2.2.2.1 Cm.2.2.2.2.2.2.2.2.2.2.2.1 Cm.2.2.2.2.2.2.2.2.2.2.2.2.1 Cm.2.2.2.2.2.2.2.2.2.2.2.2.2.2.2.1) (aP.mk Cm.2.2.2.2.2.2.2.2.2.2.2.2.2.2.2.2) Cm.2.2.2.2.2.2.2.2.2.1)) fun HV=>
   nX [] [(10008,10010),(10009,10011)] (some (HV.1.CJ,HV.1.mf,HV.1.sG,HV.1.rH,HV.1.ba.dw,HV.1.ba.aR,HV.1.ba.aX,HV.1.dS,HV.1.cj,HV.2.2.2,HV.2.1.cY,HV.2.1.eG,HV.2.1.dh,HV.2.1.gf.aW,HV.2.1.df,HV.2.1.bh,HV.2.2.1.aW))) fun Cm=>
  nX [] [(10005,10008),(10006,10009)] (some (Cm.1,Cm.2.1,Cm.2.2.1,Cm.2.2.2.1,Cm.2.2.2.2.1,Cm.2.2.2.2.2.1,Cm.2.2.2.2.2.2.1,Cm.2.2.2.2.2.2.2.1,Cm.2.2.2.2.2.2.2.2.1,Cm.2.2.2.2.2.2.2.2.2.2.1,Cm.2.2.2.2.2.2.2.2.2.2.2.1,Cm.2.2.2.2.2.2.2.2.2.2.2.2.1,Cm.2.2.2.2.2.2.2.2.2.2.2.2.2.1,Cm.2.2.2.2.2.2.2.2.2.2.2.2.2.2.1,Cm.2.2.2.2.2.2.2.2.2.2.2.2.2.2.2.1,Cm.2.2.2.2.2.2.2.2.2.2.2.2.2.2.2.2))) fun zV=>
 Bi (cl 77 [(100000,100007),(100001,100008),(100002,100009)] (vz zV.2.2.2.2.1 zV.2.2.2.2.2.1 zV.2.2.2.2.2.2.1)) fun v46=>
 eT 78 (bA 3 fH) [v46] fun xv=>
 Ck (dL 72 (zV.2.2.2.2.2.2.2.1.length+List.length xv))<|
 rX [(50000,79),(50001,10005),(50002,10006)] (some (true,(ay.mk zV.1 zV.2.1 zV.2.2.1 () () (IntKind.wrap .i64 (zV.2.2.2.1+1)) (aN.mk zV.2.2.2.2.1 zV.2.2.2.2.2.1 zV.2.2.2.2.2.2.1) (zV.2.2.2.2.2.2.2.1++xv) zV.2.2.2.2.2.2.2.2.1),(aj.mk (bS.mk zV.2.2.2.2.2.2.2.2.2.2.2.2.1) zV.2.2.2.2.2.2.2.2.2.2.2.2.2.1 zV.2.2.2.2.2.2.2.2.2.1 zV.2.2.2.2.2.2.2.2.2.2.1 zV.2.2.2.2.2.2.2.2.2.2.2.1 zV.2.2.2.2.2.2.2.2.2.2.2.2.2.2.1),(aP.mk zV.2.2.2.2.2.2.2.2.2.2.2.2.2.2.2)))
instance NW{o0 o2 o5}:MA (oW o0 o2 o5) prog 20 (fun _=>15) fun r=>⟨[.ref 100000 0],[(100000,some (.bC 145 (ay.b0 ({ o0 with ba:=(aN.mk [] [] []) }:ay) (.row 100001) (.ref 100002 0) (.ref 100005 0) (.row 100007) (.row 100008) (.row 100009) (.row 100010) (.row 100011)))),(100001,some (.R 123 7 cW o0.mf)),(100002,some (.bC 234 (aj.b0 o2 (.row 100003) (.row 100004)))),(100003,some (.R 130 4 da o2.df)),(100004,some (.mp (pN cM DV.bool o2.bh))),(100005,some (.bC 240 [.row 100006])),(100006,some (.R 255 8 dm o5.aW)),(100007,some (.R 152 3 ff o0.ba.dw)),(100008,some (.R 4 1 DV.bool o0.ba.aR)),(100009,some (.R 3 1 (DV.int .i64) o0.ba.aX)),(100010,some (.R 143 3 fH o0.dS)),(100011,some (.R 62 9 AEv.dv o0.cj))],.bool r.1,[(100000,some (.bC 145 (ay.b0 ({ r.2.1 with ba:=(aN.mk [] [] []) }:ay) (.row 100001) (.ref 100002 0) (.ref 100005 0) (.row 100007) (.row 100008) (.row 100009) (.row 50000) (.row 50001)))),(100002,some (.bC 234 (aj.b0 r.2.2.1 (.row 100003) (.row 100004)))),(100005,some (.bC 240 [.row 50002])),(100001,some (.R 123 7 cW r.2.1.mf)),(100003,some (.R 130 4 da r.2.2.1.df)),(100004,some (.mp (pN cM DV.bool r.2.2.1.bh))),(100007,some (.R 152 3 ff r.2.1.ba.dw)),(100008,some (.R 4 1 DV.bool r.2.1.ba.aR)),(100009,some (.R 3 1 (DV.int .i64) r.2.1.ba.aX)),(50000,some (.R 143 3 fH r.2.1.dS)),(50001,some (.R 62 9 AEv.dv r.2.1.cj)),(50002,some (.R 255 8 dm r.2.2.2.aW)),(100006,none),(100010,none),(100011,none)],[50000,50001,50002]⟩:=⟨fun hM=>by unfold oW at hM;exact ab func20 ntmps20⟩
noncomputable def mG(o0:ay)(o2:aj)(o5:aP):Option (List AEv) :=
 Bi (cl 7 [] (lY o0 o2 o5)) fun v2=>
 If v2 (
  rX [] (some ([]:List AEv)))<|
 Ck (iJ 88 (o0.cj.length:Int) (o0.cj.length:Int))<|
 eT 13 AEv.dv (AEv.mk 0 0 0 0 0 0 0 0 []) fun _=>
 fL (List.replicate (Int.toNat (o0.cj.length:Int)) (AEv.mk 0 0 0 0 0 0 0 0 [])) 19 [100000,100001,100002,100003,100004,100005,100006,100007,100008,100009,100010,100011] [17,18] [100000,100001,100002,100003,100004,100005,100006,100007,100008,100009,100010,100011] (fun _ t=>(3,.row 10001)::t) (fun s t=>(10001,some (.R 62 9 AEv.dv s))::t) [] [(10001,13)] m64 (o0.cj.length:Int) (fun k4 s6=>
  Bi (idx o0.cj (k4:Int)) fun v8=>
  Ck (dL 8 (v8.bR.length))<|
  wk [.z 26]<|
  Bi (idx s6 (k4:Int)) fun v11=>
  eT 31 AEv.dv v8 fun v12=>
  nX [] [] (some (List.set s6 (Int.toNat (k4:Int)) v12))) fun s6=>
 wk [.z 10001]<|rX [] (some s6)
instance Lj{o0 o2 o5}:MA (mG o0 o2 o5) prog 21 (fun _=>0) fun r=>⟨[.ref 100000 0],[(100000,some (.bC 145 (ay.b0 ({ o0 with ba:=(aN.mk [] [] []) }:ay) (.row 100001) (.ref 100002 0) (.ref 100005 0) (.row 100007) (.row 100008) (.row 100009) (.row 100010) (.row 100011)))),(100001,some (.R 123 7 cW o0.mf)),(100002,some (.bC 234 (aj.b0 o2 (.row 100003) (.row 100004)))),(100003,some (.R 130 4 da o2.df)),(100004,some (.mp (pN cM DV.bool o2.bh))),(100005,some (.bC 240 [.row 100006])),(100006,some (.R 255 8 dm o5.aW)),(100007,some (.R 152 3 ff o0.ba.dw)),(100008,some (.R 4 1 DV.bool o0.ba.aR)),(100009,some (.R 3 1 (DV.int .i64) o0.ba.aX)),(100010,some (.R 143 3 fH o0.dS)),(100011,some (.R 62 9 AEv.dv o0.cj))],.L 9 AEv.dv r,[(100000,some (.bC 145 (ay.b0 ({ o0 with ba:=(aN.mk [] [] []) }:ay) (.row 100001) (.ref 100002 0) (.ref 100005 0) (.row 100007) (.row 100008) (.row 100009) (.row 100010) (.row 100011)))),(100001,some (.R 123 7 cW o0.mf)),(100002,some (.bC 234 (aj.b0 o2 (.row 100003) (.row 100004)))),(100003,some (.R 130 4 da o2.df)),(100004,some (.mp (pN cM DV.bool o2.bh))),(100005,some (.bC 240 [.row 100006])),(100006,some (.R 255 8 dm o5.aW)),(100007,some (.R 152 3 ff o0.ba.dw)),(100008,some (.R 4 1 DV.bool o0.ba.aR)),(100009,some (.R 3 1 (DV.int .i64) o0.ba.aX)),(100010,some (.R 143 3 fH o0.dS)),(100011,some (.R 62 9 AEv.dv o0.cj))],[]⟩:=⟨fun hM=>by unfold mG at hM;exact ab func21 ntmps21⟩
noncomputable def uX(x0:aH)(x1:aH):Option Bool :=
 Bi (ld x0 x1) fun v2=>
 some (decide (v2<0))
instance aaB{x0 x1}:MC (uX x0 x1) fun r=>bx prog 116 [.agg (cM x0),.agg (cM x1)] (.bool r):=⟨fun hM=>by unfold uX at hM;exact pb func116 ntmps116⟩
noncomputable def jc(x0:aH)(x1:aH):Option Int :=
 Bi (uX x0 x1) fun v2=>
 If v2 (
  some (-1))<|
 Bi (uX x1 x0) fun v4=>
 If v4 (
  some 1)<|
 some 0
instance FP{x0 x1}:MC (jc x0 x1) fun r=>bx prog 115 [.agg (cM x0),.agg (cM x1)] (.I r):=⟨fun hM=>by unfold jc at hM;exact pb func115 ntmps115⟩
noncomputable def gq(x1:Int)(x2:Int)(o0:List aH):Option (List aH) :=
 wL (E:=(List aH)) (o0,(IntKind.wrap .i64 (x1+1))) [100000] [0,1,2,3] [] (fun s t=>(8,.I s.2)::t) (fun s t=>(100000,some (.R 121 4 nD s.1))::t) [] [] (fun s3=>
  If (decide (s3.2<x2)) (
   wL (E:=(List aH)) (s3.1,s3.2) [100000] [0,1,2,3,8] [] (fun s t=>(9,.I s.2)::t) (fun s t=>(100000,some (.R 121 4 nD s.1))::t) [] [] (fun s6=>
    Bi (gb (decide (x1<s6.2)) (aH.mk 0 0 0 0) (idx s6.1 s6.2)) fun v8=>
    Bi (gb (decide (x1<s6.2)) (aH.mk 0 0 0 0) (idx s6.1 (IntKind.wrap .i64 (s6.2-1)))) fun v10=>
    Bi (gb (decide (x1<s6.2)) (0) (jc v8 v10)) fun v12=>
    If ((decide (x1<s6.2))&&(decide (v12<0))) (
     Bi (idx s6.1 (IntKind.wrap .i64 (s6.2-1))) fun qm=>
     Bi (idx s6.1 s6.2) fun pF=>
     eT 51 nD qm fun qt=>
     Bi (idx (List.set s6.1 (Int.toNat s6.2) qt) (IntKind.wrap .i64 (s6.2-1))) fun xw=>
     eT 52 nD pF fun v20=>
     nX [] [] (some (.next ((List.set (List.set s6.1 (Int.toNat s6.2) qt) (Int.toNat (IntKind.wrap .i64 (s6.2-1))) v20),(IntKind.wrap .i64 (s6.2-1))))))<|
    some (.done s6.1)) fun e21=>
   nX [] [] (some (.next (e21,(IntKind.wrap .i64 (s3.2+1))))))<|
  some (.done s3.1)) fun e22=>
 rX [] (some e22)
instance Bc{x1 x2 o0}:MA (gq x1 x2 o0) prog 223 (fun _=>1) fun r=>⟨[.row 100000,.I x1,.I x2,.val (.func (.func 115) #[] #[])],[(100000,some (.R 121 4 nD o0))],.gW [],[(100000,some (.R 121 4 nD r))],[]⟩:=⟨fun hM=>by unfold gq at hM;exact ae func223 ntmps223⟩
@[reducible] noncomputable def oU(s3:Unit):Option (List aH) :=
 none
noncomputable def iR(x1:Int)(x2:Int)(x3:Int)(o0:List aH):Option (List aH) :=
 o1<|
 If (decide ((IntKind.wrap .i64 (x2-x1))≤12)) (
  Bi (cl 30 [] (gq x1 x2 o0)) fun v2=>
  rX [] (some v2))<|
 If (x3==0) (
  none)<|
 jn oU 7 [100000] [0,1,2,3,4,10,11,12] [100000] i2 i2<|
 If (!true) (
  none)<|
 nX [] [] (oU ())
instance Dq{x1 x2 x3 o0}:MA (iR x1 x2 x3 o0) prog 169 (fun _=>1) fun r=>⟨[.row 100000,.I x1,.I x2,.I x3,.val (.func (.func 115) #[] #[])],[(100000,some (.R 121 4 nD o0))],.gW [],[(100000,some (.R 121 4 nD r))],[]⟩:=⟨fun hM=>by unfold iR at hM;exact ae func169 ntmps169⟩
noncomputable def fe(o0:List aH):Option (List aH) :=
 Bi (oB (IntKind.wrap .u64 (o0.length:Int))) fun v2=>
 Bi (cl 13 [] (iR 0 (o0.length:Int) v2 o0)) fun v4=>
 rX [] (some v4)
instance uq{o0}:MA (fe o0) prog 114 (fun _=>1) fun r=>⟨[.row 100000,.val (.func (.func 115) #[] #[])],[(100000,some (.R 121 4 nD o0))],.gW [],[(100000,some (.R 121 4 nD r))],[]⟩:=⟨fun hM=>by unfold fe at hM;exact ae func114 ntmps114⟩
end Go.Proofs.YtpeihknododmlaaGreatDoor
namespace Go.Proofs.YtpeihknododmlaaGreatDoor
open Go.Proofs.Tryz
theorem Ac(x:Int):I6 (IntKind.wrap .i64 x):=by
 unfold I6;rw[IntKind.wrap_i64];omega
theorem I6.of{x:Int}(h:-1000000000≤x∧x≤1000000000):I6 x:=by unfold I6;omega
theorem aeg{x y:Int}(hx:I6 x):I6 (Int.tmod x y):=by
 unfold I6 at *;have h:=Int.natAbs_tmod x y;have h2:=Nat.mod_le x.natAbs y.natAbs;rcases Int.le_total 0 x with h0|h0
 ·have:=Int.tmod_nonneg y h0
  omega
 ·have:Int.tmod x y≤0:=by
   have:=Int.tmod_nonneg y (show 0≤-x by omega);rw[Int.neg_tmod]at this;omega
  omega
theorem Jj(b:Bool):Wp (kW b) I6:=by
 unfold kW;exact ak (fun _=>ah (I6.of (by decide))) (fun _=>ah (I6.of (by decide)))
theorem JW(b:Bool):Wp (wE b) I6:=by
 unfold wE;exact ak (fun _=>ah (I6.of (by decide))) (fun _=>ah (I6.of (by decide)))
theorem WV{o x:Int}:Wp (yz o x) fun q=>I6 q.1:=by
 unfold yz;refine ak (fun _=>ah (Ac _)) (fun _=>ak (fun _=>au (Jj _) (fun _ h=>ah h)) (fun _=>ah (I6.of (by decide))))
theorem Va{o x y:Int}(hx:I6 x):Wp (xe o x y) I6:=by
 unfold xe;refine ak (fun _=>ah (I6.of (by decide))) (fun h0=>?_);have:y≠0:=by simpa using h0
 refine ak (fun _=>ah (Ac _)) (fun _=>ak (fun _=>ah (I6.of (by decide))) (fun _=>ak (fun _=>aK this (ah (Ac _))) (fun _=>aK this (ah (aeg hx)))))
theorem Vp{o x y:Int}(hx:I6 x):Wp (xf o x y) fun q=>I6 q.1:=by
 have tr:∀b,Wp (Bi (kW b) fun v=>some ((v,0):Int×Int)) fun q=>I6 q.1:=fun b=>au (Jj b) (fun _ h=>ah h)
 have k2:∀b,Wp (vJ o x y b) fun q=>I6 q.1:=by
  intro b;refine ak (fun _=>au (Va hx) (fun _ h=>ah h)) (fun _=>?_);refine ak (fun _=>ah (Ac _)) (fun _=>ak (fun _=>ah (Ac _)) (fun _=>?_));refine ak (fun _=>tr _) (fun _=>ak (fun _=>tr _) (fun _=>ak (fun _=>tr _) (fun _=>ak (fun _=>tr _) (fun _=>ak (fun _=>tr _) (fun _=>ak (fun _=>tr _) (fun _=>ak (fun _=>tr _) (fun _=>ak (fun _=>tr _) (fun _=>?_))))))));exact ax (ah (I6.of (by decide)))
 unfold xf;exact cS (ak (fun _=>ah (Ac _)) (fun _=>cS (ak (fun _=>ax (k2 _)) (fun _=>ax (k2 _)))))
theorem ET{i j:Int}(h0:0≤i)(h1:i<j)(h2:j≤1000000000000):IntKind.wrap .i64 (Int.fdiv (IntKind.wrap .u64 (IntKind.wrap .i64 (i+j))) (2^min (Int.toNat 1) (IntKind.bits .u64)))=(i+j) / 2:=by
 have e:(2:Int)^min (Int.toNat 1) (IntKind.bits .u64)=2:=by decide
 rw[e,wrap_i64 (n:=i+j) (by omega) (by omega),wrap_u64 (by omega) (by omega),Int.fdiv_eq_ediv_of_nonneg _ (by decide),wrap_i64 (by omega) (by omega)]
theorem YN(a b:Int):Gw (qe a b):=by
 unfold qe rV;refine od (ah (od (ah (ak (fun _=>ak (fun _=>ah trivial) (fun _=>ah trivial)) (fun _=>ak (fun _=>ah trivial) (fun _=>ak (fun _=>ah trivial) (fun _=>ak (fun _=>ah trivial) (fun _=>ah trivial))))))))
theorem Ou(a b:Int):Gw (tR a b):=by
 unfold tR oD;exact od (ah (au (P:=fun _=>True) (ia (fun _=>ah trivial) (fun _=>trivial)) (fun _ _=>ah trivial)))
theorem JU(a:cr)(b:Int):Gw (lV a b):=by
 unfold lV;exact au (YN _ _) (fun _ _=>ah trivial)
theorem Dw{t:aO}{k:Int}(hl:t.aW.length≤1000):Wp (jY t k) fun r=>0≤r.1∧r.1≤t.aW.length∧(r.2=true→r.1<t.aW.length):=by
 unfold jY ec;refine au (P:=fun r=>0≤r.1∧r.1≤(t.aW.length:Int)∧(r.2=true→r.1<(t.aW.length:Int))) (aQ ?_) (fun r h=>ah h);refine ly (fun s=>0≤s.1∧s.1≤s.2∧s.2≤(t.aW.length:Int)) (fun s=>(s.2-s.1).toNat) ⟨Int.le_refl _,by dsimp only;omega,Int.le_refl _⟩ (by dsimp only;omega) ?_;rintro⟨i,j⟩ ⟨i0,ij,jn⟩;dsimp only at i0 ij jn ⊢;refine ak (fun hb=>?_) (fun hb=>ah ?_)
 ·have Dn:i<j:=by simpa using hb
  rw[ET i0 Dn (by omega)];refine fI (by omega) (by omega) (fun v _ _=>au (JU _ _) (fun q _=>ak (fun _=>ax (ah ?_)) (fun _=>ax (ah ?_))))
  ·rw[wrap_i64 (by omega) (by omega)]
   exact⟨⟨by dsimp only;omega,by dsimp only;omega,by dsimp only;omega⟩,by dsimp only;omega⟩
  ·exact⟨⟨by dsimp only;omega,by dsimp only;omega,by dsimp only;omega⟩,by dsimp only;omega⟩
 ·refine au (P:=fun _=>True) (ia (fun h=>?_) (fun _=>trivial)) (fun v _=>au (P:=fun _=>True) (ia (fun _=>JU _ _) (fun _=>trivial)) (fun u _=>aI (ah ⟨i0,by dsimp only;omega,fun h=>?_⟩)))
  ·have:i<(t.aW.length:Int):=by simpa using h
   exact Bt i0 this (fun _ _ _=>trivial)
  ·dsimp only at h ⊢
   rw[Bool.and_eq_true]at h;simpa using h.1
theorem YZ{l:List Int}{k:Int}(hl:l.length≤1000):Gw (iH l k):=by
 unfold iH;refine ly (fun s=>0≤s.1∧s.1≤s.2∧s.2≤(l.length:Int)) (fun s=>(s.2-s.1).toNat) ⟨Int.le_refl _,by dsimp only;omega,Int.le_refl _⟩ (by dsimp only;omega) ?_;rintro⟨i,j⟩ ⟨i0,ij,jn⟩;dsimp only at i0 ij jn ⊢;refine ak (fun hb=>?_) (fun hb=>ah ?_)
 ·have Dn:i<j:=by simpa using hb
  rw[ET i0 Dn (by omega)];refine fI (by omega) (by omega) (fun v _ _=>au (Ou _ _) (fun q _=>ak (fun _=>ax (ah ?_)) (fun _=>ax (ah ?_))))
  ·rw[wrap_i64 (by omega) (by omega)]
   exact⟨⟨by dsimp only;omega,by dsimp only;omega,by dsimp only;omega⟩,by dsimp only;omega⟩
  ·exact⟨⟨by dsimp only;omega,by dsimp only;omega,by dsimp only;omega⟩,by dsimp only;omega⟩
 ·have at_:∀{c:Bool},(c=true→i<(l.length:Int))→Gw (gb c 0 (idx l i)):=fun h=>ia (fun e=>Bt i0 (h e) (fun _ _ _=>trivial)) (fun _=>trivial)
  unfold qI;refine au (at_ (fun h=>by simpa using h)) (fun v _=>au (at_ (fun h=>by rw[Bool.and_eq_true]at h;simpa using h.1)) (fun u _=>?_));exact au (P:=fun _=>True) (ia (fun _=>ah trivial) (fun _=>trivial)) (fun _ _=>au (P:=fun _=>True) (ia (fun _=>ah trivial) (fun _=>trivial)) (fun _ _=>ah trivial))
structure AB(t:aO):Prop where
 len:t.aW.length≤16
 es:∀e∈t.aW,I6 e.aeW∧I6 e.LH
theorem AB.nil:AB ⟨[]⟩:=⟨by simp,by simp⟩
theorem KT{t:aO}{k:Int}(h:AB t):Wp (ib t k) fun q=>I6 q.1:=by
 have:=h.len;unfold ib;refine au (Dw (by omega)) ?_;rintro⟨i,f⟩ ⟨i0,i1,i2⟩;dsimp only at i0 i1 i2 ⊢;refine ak (fun _=>ah (I6.of (by decide))) (fun hf=>?_);have:f=true:=by simpa using hf
 exact fI i0 (i2 this) (fun v _ v2=>ah (h.es v v2).2)
theorem abT{n:Int}(h0:0≤n)(h1:n≤1000):fp n=some []:=by
 unfold fp;refine ca (cS (ak (fun h=>by simp at h;omega) (fun _=>ax (cS ?_))));rw[wrap_i64 (n:=0-0) (by decide) (by decide),wrap_i64 (n:=n-(0-0)) (by omega) (by omega)];refine ak (fun h=>?_) (fun _=>ax (aI (ah rfl)));have:0<n:=by simpa using h
 exact aK ⟨by omega,Ed (by omega) (by decide)⟩ (aV (aK (by unfold eN;omega) (ax (aI (ah (by simp))))))
theorem JZ{l:List (List cr)}(h:l.length≤3)(hl:∀x∈l,x.length≤20):eF l=some l.flatten:=by
 unfold eF;refine ca (cw (fun j s=>0≤s∧s≤20*j) (by unfold m64;omega) ⟨Int.le_refl _,by simp⟩ ?_ ?_)
 ·rintro j s hj ⟨s0,s1⟩
  refine bJ hj (fun x _ x2=>?_);have:=hl x x2;rw[wrap_i64 (by omega) (by omega)];exact ak (fun h=>by simp at h;omega) (fun _=>ax (ah (by omega)))
 rintro s ⟨s0,s1⟩;rw[Int.toNat_natCast]at s1;refine aA (by unfold cl;exact abT s0 (by omega)) ?_;refine cw (fun j s=>s=(l.take j).flatten∧s.length≤20*j) (by unfold m64;omega) ⟨by simp,by simp⟩ ?_ ?_
 ·rintro j s hj ⟨rfl,s1⟩
  refine bJ hj (fun x x1 x2=>?_);have:=hl x x2;refine aK (Ed (by omega) (by decide)) (ax (ah ⟨?_,by rw[List.length_append];omega⟩));rw[List.take_add_one,x1];simp
 ·rintro s ⟨rfl,_⟩
  rw[Int.toNat_natCast,List.take_length];exact aI (ah rfl)
theorem aaY{t:aO}{k v:Int}(h:AB t)(hk:I6 k)(hv:I6 v):Wp (jY t k) fun f=>(f.2=true∨t.aW.length<16)→Wp (nF t k v) AB:=by
 have hlen:=h.len;obtain⟨⟨i,f⟩,hf,i0,i1,i2⟩:=Dw (t:=t) (k:=k) (by omega);refine⟨(i,f),hf,fun si=>?_⟩;dsimp only at i0 i1 i2 si;unfold nF;refine aA hf ?_
 have K1:∀rest:List cr,(∀e∈rest,e∈t.aW)→i+1+rest.length≤16→Wp (qY t k v (i,f) rest) AB:=by
  intro rest hr hl;refine aK (by unfold eN;dsimp only;omega) (aV (aV ?_));have hti:(List.take (Int.toNat i) t.aW).length≤i.toNat:=by rw[List.length_take];omega
  have hcc:=JZ (l:=[List.take (Int.toNat i) t.aW,[⟨k,v⟩],rest]) (by simp) (fun x hx=>by
   simp at hx;rcases hx with rfl|rfl|rfl
   ·omega
   ·simp
   ·omega)
  refine aA (by unfold cl;exact hcc) (cR (ah ⟨?_,fun e he=>?_⟩))
  ·dsimp only
   simp only[List.flatten_cons,List.flatten_nil,List.length_append,List.length_cons,List.length_nil];omega
  ·dsimp only at he
   simp only[List.flatten_cons,List.flatten_nil,List.append_nil,List.mem_append,List.mem_singleton]at he;rcases he with he|rfl|he
   ·exact h.es e (List.mem_of_mem_take he)
   ·exact⟨hk,hv⟩
   ·exact h.es e (hr e he)
 refine au (P:=fun _=>True) (ia (fun e=>Bt i0 (i2 e) (fun _ _ _=>trivial)) (fun _=>trivial)) (fun u _=>?_);refine ak (fun _=>ah h) (fun _=>aK (by unfold eN;dsimp only;omega) (cS (ak (fun hf=>?_) (fun hf=>?_))))
 ·dsimp only at hf
  have hi:=i2 hf;refine aK (by unfold eN;rw[List.length_drop];dsimp only;omega) (ax (K1 _ (fun e he=>List.mem_of_mem_drop (List.mem_of_mem_drop he)) ?_));rw[List.length_drop,List.length_drop];dsimp only;have:Int.toNat 1=1:=rfl;omega
 ·dsimp only at hf
  refine ax (K1 _ (fun e he=>List.mem_of_mem_drop he) ?_);rw[List.length_drop];dsimp only;rcases si with h|h
  ·rw[h]at hf;cases hf
  ·omega
theorem Sl{t:aO}{k v:Int}(h:AB t)(hk:I6 k)(hv:I6 v):Wp (ib t k) fun g=>(g.2||(decide ((t.aW.length:Int)<16)))=true→Wp (nF t k v) AB:=by
 obtain⟨⟨i,f⟩,hf,hp⟩:=aaY h hk hv;obtain⟨⟨i',f'⟩,hf',i0,i1,i2⟩:=Dw (t:=t) (k:=k) (by have:=h.len;omega);rw[hf]at hf';obtain⟨rfl,rfl⟩:=Prod.mk.inj (Option.some.inj hf');unfold ib;refine aA hf (ak (fun _=>ah (fun e=>hp ?_)) (fun hb=>?_))
 ·dsimp only at e ⊢
  right
  have:(t.aW.length:Int)<16:=by simpa using e
  omega
 ·dsimp only at hb i0 i2
  have:f=true:=by simpa using hb
  exact fI i0 (i2 this) (fun v _ _=>ah (fun _=>hp (.inl this)))
theorem aa0{t:aO}{k:Int}(h:AB t):Wp (oO t k) AB:=by
 have hlen:=h.len;unfold oO;refine au (Dw (by omega)) ?_;rintro⟨i,f⟩ ⟨i0,i1,i2⟩;dsimp only at i0 i1 i2 ⊢;refine ak (fun _=>ah h) (fun hf=>?_);have hi:=i2 (by simpa using hf);rw[wrap_i64 (n:=i+1) (by omega) (by omega)];refine aK (by unfold eN;omega) (aK (by unfold eN;omega) (aV ?_));have hti:(List.take (Int.toNat i) t.aW).length≤i.toNat:=by rw[List.length_take];omega
 have hcc:=JZ (l:=[List.take (Int.toNat i) t.aW,List.drop (Int.toNat (i+1)) t.aW]) (by simp) (fun x hx=>by
  simp at hx;rcases hx with rfl|rfl
  ·omega
  ·rw[List.length_drop];omega)
 refine aA (by unfold cl;exact hcc) (cR (ah ⟨?_,fun e he=>?_⟩))
 ·dsimp only
  simp only[List.flatten_cons,List.flatten_nil,List.length_append,List.length_nil,List.length_drop];omega
 ·dsimp only at he
  simp only[List.flatten_cons,List.flatten_nil,List.append_nil,List.mem_append]at he;rcases he with he|he
  ·exact h.es e (List.mem_of_mem_take he)
  ·exact h.es e (List.mem_of_mem_drop he)
structure XIn(nv na nf nt:Nat)(x:aC):Prop where
 v:x.cU=2∨x.cU=24∨x.cU=33→0≤x.gA∧x.gA<nv
 p:x.cU=3→0≤x.gA∧x.gA<na
 f:x.cU=4→0≤x.gA∧x.gA<nf
 t:x.cU=6∨x.cU=7∨x.cU=8∨x.cU=25∨x.cU=26→0≤x.gA∧x.gA<nt
 s:x.cU=30∨x.cU=31→0≤x.gB∧0≤x.gN∧x.gN≤4
structure XE where
 cs:List aC
 H:List Int
 top:Int
 N:Nat
 nv:Nat
 nt:Nat
 args:List Int
 fl:List Bool
structure afa(E:XE):Prop where
 hs:HS E.cs E.H E.top E.cs.length
 hl:E.H.length=E.cs.length+1
 t64:E.top≤64
 cl:E.cs.length≤4000
 ci:CI E.N E.cs
 xi:∀x∈E.cs,XIn E.nv E.args.length E.fl.length E.nt x
 ai:∀a∈E.args,I6 a
structure acO(N:Nat)(e:cq):Prop where
 k0:1≤e.bw
 k1:e.bw≤5
 to:e.bw=1→0≤e.uS∧e.uS<N
 h:e.bw=1∨e.bw=2→0≤e.bM∧e.bM≤6
 d:I6 e.EX
 k:I6 e.cG
 v:I6 e.Rh
 al:e.bR.length≤4
 args:∀x∈e.bR,I6 x
structure Zs(s:aL):Prop where
 v:∀x∈s.ez,I6 x
 t:∀x∈s.cX,AB x
 d:AB s.dW
structure Nh(E:XE)(k:Nat)(m:aJ):Prop where
 code:m.cE=E.cs
 args:m.bX.bR=E.args
 fl:m.bX.aR=E.fl
 now:I6 m.bX.BK
 fail:m.bX.xb.length≤1000
 st:Zs m.aE.bG
 nv:m.aE.bG.ez.length=E.nv
 nt:m.aE.bG.cX.length=E.nt
 La:∀v∈m.cy,I6 v
 el:m.aE.cZ.length≤k
 ef:∀e∈m.aE.cZ,acO E.N e
 s0:0≤m.nI
 s8:m.nI≤8
 d0:0≤m.dh
 dk:m.dh≤k
structure SP(E:XE)(k:Nat)(m:aJ):Prop where
 so:Nh E k m
 n0:0≤m.sF
 n1:m.sF≤E.cs.length
 sl:m.cy.length≤100
 ht:m.nJ=false→m.sF<E.cs.length→E.H[m.sF.toNat]? = some (m.cy.length:Int)
section
variable {E:XE} {k i:Nat} {m:aJ} {x:aC}
theorem Ca{v:Int}(hl:m.cy.length≤1000):dY v m=some { m with cy:=m.cy++[v] }:=by
 unfold dY;exact ca (aV (aK (xt (by omega) (by decide)) (aI (ah rfl))))
theorem wy(h1:1≤m.cy.length)(hl:m.cy.length≤1000)(hi:∀v∈m.cy,I6 v):Wp (dU m) fun q=>I6 q.1∧∃s,q.2 = { m with cy:=s }∧s.length+1=m.cy.length∧∀v∈s,I6 v:=by
 unfold dU;rw[wrap_i64 (n:=(m.cy.length:Int)-1) (by omega) (by omega)];refine fI (by omega) (by omega) (fun v _ v2=>aK (by unfold eN;omega) (aI (ah ⟨hi v v2,_,rfl,?_,fun u hu=>hi u (List.mem_of_mem_take hu)⟩)));rw[List.length_take];omega
theorem Nh.up{k':Nat}(h:Nh E k m)(hk:k≤k'):Nh E k' m:={ h with el:=Nat.le_trans h.el hk,dk:=by have:=h.dk;omega }
theorem Nh.stack(h:Nh E k m){s:List Int}(hs:∀v∈s,I6 v):Nh E k { m with cy:=s }:=⟨h.code,h.args,h.fl,h.now,h.fail,h.st,h.nv,h.nt,hs,h.el,h.ef,h.s0,h.s8,h.d0,h.dk⟩
structure Pm(E:XE)(k i:Nat)(m:aJ)(x:aC):Prop where
 e:afa E
 so:Nh E k m
 hx:E.cs[i]? = some x
 nx:m.sF=(i:Int)+1
 Cf:HIn E.H E.top i x (m.cy.length:Int)
 nf:m.nJ=false
theorem Pm.len(a:Pm E k i m x):m.cy.length≤64:=by have:=a.Cf.anq;have:=a.e.t64;omega
theorem Pm.io(a:Pm E k i m x):IOk E.N x:=(a.e.ci x (List.mem_of_getElem? a.hx)).1
theorem Pm.xi(a:Pm E k i m x):XIn E.nv E.args.length E.fl.length E.nt x:=a.e.xi x (List.mem_of_getElem? a.hx)
theorem Pm.il(a:Pm E k i m x):i<E.cs.length:=(List.getElem?_eq_some_iff.1 a.hx).1
theorem Pm.norm(a:Pm E k i m x)(h27:x.cU≠27)(h34:x.cU≠34){m':aJ}(so:Nh E (k+1) m')(hn:m'.sF=(i:Int)+1)(hl:(m'.cy.length:Int)=(m.cy.length:Int)-fJ x+eS x.cU):SP E (k+1) m':=by
 have il:=a.il;have t:=a.Cf.agQ;have t64:=a.e.t64;refine⟨so,by omega,by omega,by omega,fun _ pE=>?_⟩;have:=a.Cf.next h27 h34;rw[hn,hl,show((i:Int)+1).toNat=i+1 by omega];exact this
theorem Pm.push(a:Pm E k i m x){v:Int}(hv:I6 v)(h0:fJ x=0)(h1:eS x.cU=1)(h27:x.cU≠27)(h34:x.cU≠34):SP E (k+1) { m with cy:=m.cy++[v] }:=by
 refine a.norm h27 h34 ((a.so.stack (fun u hu=>?_)).up (Nat.le_succ k)) a.nx ?_
 ·rcases List.mem_append.1 hu with hu|hu
  ·exact a.so.La u hu
  ·simp at hu;subst hu;exact hv
 ·dsimp only
  rw[List.length_append,List.length_singleton,h0,h1];omega
theorem abf(a:Pm E k i m x)(ho:x.cU=30∨x.cU=31)(hk:k≤10000000):Wp (nV x m) (SP E (k+1)):=by
 have len:=a.len;have so:=a.so;have xs:=a.xi.s ho;have io:=a.io;have VK:=a.Cf.pop;have e1:fJ x=lz x.cU+x.gN:=by unfold fJ;rw[if_pos ho]
 have Ba:=so.s8;have hs0:=so.s0;have RK:=so.el;have hnn:=a.nx;have il:=a.il;unfold nV;refine ak (fun _=>aI (ah ⟨(⟨so.code,so.args,so.fl,so.now,so.fail,so.st,so.nv,so.nt,so.La,so.el,so.ef,so.s0,so.s8,so.d0,so.dk⟩:Nh E k { m with nJ:=true }).up (Nat.le_succ k),by dsimp only;omega,by dsimp only;omega,by dsimp only;omega,fun h=>by cases h⟩)) (fun hb=>?_);have hs7:m.nI≠8:=by simpa using hb
 have hN:x.gN≤m.cy.length:=by
  have:=CT x.cU;omega
 obtain⟨n,hn⟩:=Int.eq_ofNat_of_zero_le xs.2.1;rw[hn]at hN;have w1:IntKind.wrap .i64 ((m.cy.length:Int)-x.gN)=((m.cy.length-n:Nat):Int):=by rw[hn,wrap_i64 (by omega) (by omega)];omega
 have w2:IntKind.wrap .i64 (m.nI+1)=m.nI+1:=wrap_i64 (by omega) (by omega);rw[w1,w2];refine aK (by unfold eN;omega) ?_
 have Cw:iY (Int.toNat ((m.cy.length-n:Nat):Int)) (Int.toNat ((m.cy.length:Int)-((m.cy.length-n:Nat):Int))) m.cy=some ((m.cy.drop (m.cy.length-n)).take n):=by
  unfold iY;have t1:Int.toNat ((m.cy.length-n:Nat):Int)=m.cy.length-n:=by omega
  have t2:Int.toNat ((m.cy.length:Int)-((m.cy.length-n:Nat):Int))=n:=by omega
  rw[t1,t2,tT ⟨by omega,Ed (by simp;omega) (by decide)⟩];simp
 refine aA (by unfold cl;exact Cw) (aK (by unfold eN;omega) (cS ?_));generalize hv3:(m.cy.drop (m.cy.length-n)).take n=v3
 have a3:v3.length≤4∧∀y∈v3,I6 y:=by
  rw[←hv3];refine⟨by rw[List.length_take];omega,fun y hy=>so.La y (List.mem_of_mem_drop (List.mem_of_mem_take hy))⟩
 rw[Int.toNat_natCast];have tl:(m.cy.take (m.cy.length-n)).length=m.cy.length-n:=by rw[List.length_take];omega
 have tm:∀y∈m.cy.take (m.cy.length-n),I6 y:=fun y hy=>so.La y (List.mem_of_mem_take hy)
 generalize m.cy.take (m.cy.length-n)=st at tl tm
 -- the end of both ways
 have fin:∀(s:List Int) (kd dl:Int),(∀y∈s,I6 y)→(s.length:Int)=(m.cy.length:Int)-fJ x→(kd=1∧x.cU=30∨kd=2)→I6 dl→Wp (ov x m v3 (m.aE.bG.dW.aW,m.aE.jT,m.cE,m.bX.bR,m.bX.BK,m.bX.dW,m.bX.xb,s,m.sF,m.nI+1,m.dh,m.nJ,kd,dl)) (SP E (k+1)):=by
  intro s kd dl hs Ba hkd UQ;refine cR (aV (aK (xt (by omega) (by decide)) (aI (ah (a.norm (by omega) (by omega) ⟨so.code,so.args,so.fl,so.now,so.fail,so.st,so.nv,so.nt,hs,?_,fun e he=>?_,by dsimp only;omega,by dsimp only;omega,so.d0,by have:=so.dk;dsimp only;omega⟩ a.nx ?_)))))
  ·dsimp only;rw[List.length_append,List.length_singleton];omega
  ·rcases List.mem_append.1 he with he|he
   ·exact so.ef e he
   ·simp at he;subst he
    refine⟨by dsimp only;omega,by dsimp only;omega,fun e=>?_,fun _=>⟨xs.1,?_⟩,UQ,show I6 0 from I6.of (by decide),show I6 0 from I6.of (by decide),a3.1,a3.2⟩
    ·dsimp only at e ⊢
     have:=io.snd (by omega);exact⟨this.1,this.2.1⟩
    ·dsimp only
     rcases ho with ho|ho
     ·exact(io.snd ho).2.2
     ·exact io.aft ho
  ·dsimp only
   rw[Ba];have:eS x.cU=0:=by unfold eS;rw[if_neg (by omega)]
   rw[this];omega
 refine ak (fun h=>?_) (fun h=>?_)
 ·have h31:=xR h
  have e2:lz x.cU=1:=by rw[h31];rfl
  refine au (aQ (wy (m:={ m with cy:=st,nI:=m.nI+1 }) (by dsimp only;omega) (by dsimp only;omega) tm)) ?_;rintro⟨v,_⟩ ⟨hv,s,rfl,RL,hs⟩;dsimp only at RL;exact ax (fin s 2 v hs (by omega) (.inr rfl) hv)
 ·have h31:=wC h
  have h30:x.cU=30:=by omega
  have e2:lz x.cU=0:=by rw[h30];rfl
  exact ax (fin st 1 0 tm (by omega) (.inl ⟨rfl,h30⟩) (I6.of (by decide)))
end
section
variable {E:XE} {k i:Nat} {m:aJ} {x:aC}
theorem ab6(a:Pm E k i m x)(ho:x.cU=32∨x.cU=33)(hk:k≤10000000):Wp (nW x m) (SP E (k+1)):=by
 have len:=a.len;have so:=a.so;have io:=a.io;have VK:=a.Cf.pop;have hd0:=so.d0;have hdk:=so.dk;have RK:=so.el;have il:=a.il;have hTo:=(a.e.ci x (List.mem_of_getElem? a.hx)).2;have VL:pG x=some x.gB:=by unfold pG;rw[if_neg (by omega),if_pos ho]
 have e1:fJ x=lz x.cU:=by unfold fJ;rw[if_neg (by omega)];omega
 have e0:eS x.cU=0:=by unfold eS;rw[if_neg (by omega)]
 have aEX:=a.Cf.agQ;have t64:=a.e.t64;have w2:IntKind.wrap .i64 (m.dh+1)=m.dh+1:=wrap_i64 (by omega) (by omega);unfold nW;refine au (YZ so.fail) (fun v2 _=>?_);rw[w2];refine cS ?_
 -- the end of all ways
 have fin:∀(vars:List Int) (ac0:List cr) (s:List Int) (nx kd key val:Int) (ob:Int×aJ),ob.1=key→(∀y∈vars,I6 y)→vars.length=E.nv→AB ⟨ac0⟩→(∀y∈s,I6 y)→(s.length:Int)=(m.cy.length:Int)-fJ x→(nx=(i:Int)+1∨nx=x.gB)→(kd=3∨kd=4)→I6 key→I6 val →
   Wp (kX v2 kd ob (vars,m.aE.bG.cX,ac0,m.aE.cZ,m.aE.jT,m.cE,m.bX.bR,m.bX.BK,m.bX.aR,m.bX.dW,m.bX.xb,s,nx,m.nI,m.dh+1,m.nJ,val)) (SP E (k+1)):=by
  rintro vars ac0 s nx kd key val ob rfl hv RH hdisk hs Ba hnx hkd RM Mp;refine aV (aK (xt (by dsimp only;omega) (by decide)) (aI (ah ?_)))
  have so':Nh E (k+1) (aJ.mk (bV.mk (aL.mk vars m.aE.bG.cX ⟨ac0⟩) (m.aE.cZ++[⟨kd,0,0,0,ob.1,val,v2.2,[]⟩]) m.aE.jT) m.cE (dV.mk m.bX.bR m.bX.BK m.bX.aR m.bX.dW m.bX.xb) s nx m.nI (m.dh+1) m.nJ):=by
   refine⟨so.code,so.args,so.fl,so.now,so.fail,⟨hv,so.st.t,hdisk⟩,RH,so.nt,hs,?_,fun e he=>?_,so.s0,so.s8,by dsimp only;omega,by dsimp only;omega⟩
   ·dsimp only;rw[List.length_append,List.length_singleton];omega
   ·rcases List.mem_append.1 he with he|he
    ·exact so.ef e he
    ·simp at he;subst he
     exact⟨by dsimp only;omega,by dsimp only;omega,fun e=>by dsimp only at e;omega,fun e=>by dsimp only at e;omega,show I6 0 from I6.of (by decide),RM,Mp,by simp,by simp⟩
  rcases hnx with rfl|rfl
  ·exact a.norm (by omega) (by omega) so' rfl (by dsimp only;omega)
  ·have hb:=hTo _ VL
   refine⟨so',hb.1,hb.2,by dsimp only;omega,fun _ pE=>?_⟩;have:=a.Cf.jump _ VL;dsimp only;rw[this,Ba,e0];congr 1;omega
 -- the key has been popped
 have K1:∀(st:List Int) (kd val:Int),(∀y∈st,I6 y)→(st.length:Int)=(m.cy.length:Int)-fJ x+1→(kd=3∧x.cU=32∨kd=4∧x.cU=33)→I6 val→Wp (kY x m v2 (m.aE.bG.dW.aW,m.aE.jT,m.cE,m.bX.bR,m.bX.BK,m.bX.dW,m.bX.xb,st,m.sF,m.nI,m.dh+1,m.nJ,kd,val)) (SP E (k+1)):=by
  intro st kd val yL hstl hkd Mp;unfold kY;refine au (aQ (wy (m:={ m with cy:=st,dh:=m.dh+1 }) (by dsimp only;omega) (by dsimp only;omega) yL)) ?_;rintro⟨key,_⟩ ⟨RM,s,rfl,Ba,hs⟩;dsimp only at RM Ba;refine cS (ak (fun _=>ax (fin _ _ s _ kd key val _ rfl so.st.v so.nv so.st.d hs (by omega) (.inr rfl) (by omega) RM Mp)) (fun _=>ak (fun h32=>?_) (fun h32=>?_)))
  · -- put
   have afE:Wp (yA key val { m with cy:=s,dh:=m.dh+1 }) fun q=>∃dk,q = { m with aE:={ m.aE with bG:={ m.aE.bG with dW:=dk } },cy:=s,dh:=m.dh+1 }∧AB dk:=by
    unfold yA;obtain⟨g,hg,si⟩:=Sl so.st.d RM Mp;refine aA hg ?_;refine au (P:=fun v=>g.2=false→v=(m.aE.bG.dW.aW.length:Int)) (ia (fun _=>ah (fun _=>rfl)) (fun h e=>by rw[e]at h;cases h)) (fun v hv=>?_);refine ak (fun h=>?_) (fun _=>aI (ah ⟨_,rfl,so.st.d⟩))
    have:(g.2||(decide ((m.aE.bG.dW.aW.length:Int)<16)))=true:=by
     cases vP:g.2 with
     |true=>rfl
     |false=>rw[vP,hv vP]at h;exact h
    exact au (si this) (fun dk hdk=>aI (ah ⟨dk,rfl,hdk⟩))
   refine au (aQ afE) ?_;rintro _ ⟨dk,rfl,hdk⟩;exact ax (fin _ _ s _ kd key val _ rfl so.st.v so.nv hdk hs (by omega) (.inl a.nx) (by omega) RM Mp)
  ·have h33:x.cU=33:=by have:=wC h32;omega
   have hA:=a.xi.v (by omega);refine au (KT so.st.d) (fun g hg=>?_);refine fI hA.1 (by rw[so.nv];exact hA.2) (fun _ _ _=>aV (ax (fin _ _ s _ kd key g.1 _ rfl (fun y hy=>?_) (by rw[List.length_set];exact so.nv) so.st.d hs (by omega) (.inl a.nx) (by omega) RM hg)));rcases mem_set hy with hy|rfl
   ·exact so.st.v y hy
   ·exact hg
 refine ak (fun h=>?_) (fun h=>?_)
 ·have h32:=xR h
  have e2:lz x.cU=2:=by rw[h32];rfl
  refine au (aQ (wy (m:={ m with dh:=m.dh+1 }) (by dsimp only;omega) (by dsimp only;omega) so.La)) ?_;rintro⟨v,_⟩ ⟨hv,s,rfl,RL,hs⟩;dsimp only at RL hv;exact ax (K1 s 3 v hs (by omega) (.inl ⟨rfl,h32⟩) hv)
 ·have h33:x.cU=33:=by have:=wC h;omega
  have e2:lz x.cU=1:=by rw[h33];rfl
  exact ax (K1 m.cy 4 0 so.La (by omega) (.inr ⟨rfl,h33⟩) (I6.of (by decide)))
theorem Nh.ag4(h:Nh E k m){s:List Int}{ts:List aO}(hs:∀v∈s,I6 v)(ht:∀t∈ts,AB t)(hl:ts.length=E.nt):Nh E k { m with aE:={ m.aE with bG:={ m.aE.bG with cX:=ts } },cy:=s }:=⟨h.code,h.args,h.fl,h.now,h.fail,⟨h.st.v,ht,h.st.d⟩,h.nv,hl,hs,h.el,h.ef,h.s0,h.s8,h.d0,h.dk⟩
theorem WZ(a:Pm E k i m x)(ho:x.cU=6∨x.cU=7∨x.cU=8∨x.cU=25∨x.cU=26):Wp (mO x.cU (Int.toNat x.gA) m) (SP E (k+1)):=by
 have len:=a.len;have so:=a.so;have VK:=a.Cf.pop;have e1:fJ x=lz x.cU:=by unfold fJ;rw[if_neg (by omega)];omega
 have hA:=a.xi.t ho;have hAn:((Int.toNat x.gA:Nat):Int)=x.gA:=by omega
 have hAl:x.gA<m.aE.bG.cX.length:=by rw[so.nt];exact hA.2
 unfold mO;rw[hAn];refine ak (fun h=>?_) (fun h6=>ak (fun h=>?_) (fun h7=>ak (fun h=>?_) (fun h8=>ak (fun h=>?_) (fun h25=>?_))))
 ·have e:=xR h
  have r1:lz x.cU=1:=by rw[e];rfl
  have r2:eS x.cU=1:=by rw[e];rfl
  refine fI hA.1 hAl (fun t _ t2=>au (aQ (wy (by omega) (by omega) so.La)) ?_);rintro⟨v,_⟩ ⟨hv,s,rfl,Ba,hs⟩;refine au (KT (so.st.t t t2)) (fun g hg=>?_);refine aA (by unfold cl;exact Ca (m:={ m with cy:=s }) (by dsimp only;omega)) (aI (ah ?_));refine a.norm (by omega) (by omega) ((so.stack (s:=s++[g.1]) (fun u hu=>?_)).up (Nat.le_succ k)) a.nx ?_
  ·rcases List.mem_append.1 hu with hu|hu
   ·exact hs u hu
   ·simp at hu;subst hu;exact hg
  ·dsimp only;rw[List.length_append,List.length_singleton];omega
 ·have e:=xR h
  have r1:lz x.cU=1:=by rw[e];rfl
  have r2:eS x.cU=1:=by rw[e];rfl
  refine fI hA.1 hAl (fun t _ t2=>au (aQ (wy (by omega) (by omega) so.La)) ?_);rintro⟨v,_⟩ ⟨hv,s,rfl,Ba,hs⟩;refine au (KT (so.st.t t t2)) (fun g hg=>au (JW _) (fun b hb=>?_));refine aA (by unfold cl;exact Ca (m:={ m with cy:=s }) (by dsimp only;omega)) (aI (ah ?_));refine a.norm (by omega) (by omega) ((so.stack (s:=s++[b]) (fun u hu=>?_)).up (Nat.le_succ k)) a.nx ?_
  ·rcases List.mem_append.1 hu with hu|hu
   ·exact hs u hu
   ·simp at hu;subst hu;exact hb
  ·dsimp only;rw[List.length_append,List.length_singleton];omega
 ·have e:=xR h
  have r1:lz x.cU=0:=by rw[e];rfl
  have r2:eS x.cU=1:=by rw[e];rfl
  unfold pM;refine fI hA.1 hAl (fun t _ t2=>od (ah (aA (by unfold cl;exact Ca (by omega)) (aI (ah ?_)))));exact a.push (I6.of (by have:=(so.st.t t t2).len;omega)) (by omega) r2 (by omega) (by omega)
 ·have e:=xR h
  have r1:lz x.cU=2:=by rw[e];rfl
  have r2:eS x.cU=0:=by rw[e];rfl
  refine au (aQ (wy (by omega) (by omega) so.La)) ?_;rintro⟨v,_⟩ ⟨hv,s,rfl,Ba,hs⟩;refine au (aQ (wy (m:={ m with cy:=s }) (by dsimp only;omega) (by dsimp only;omega) hs)) ?_;rintro⟨u,_⟩ ⟨hu,s',rfl,RL,mm⟩;dsimp only at RL hu hv
  have afE:Wp (xg (Int.toNat x.gA) u v m.aE.bG.cX) fun ts=>(∀t∈ts,AB t)∧ts.length=E.nt:=by
   unfold xg;rw[hAn];refine fI hA.1 hAl (fun t _ t2=>?_);obtain⟨g,hg,si⟩:=Sl (so.st.t t t2) hu hv;refine aA hg ?_;refine au (P:=fun v=>g.2=false→v=(t.aW.length:Int)) (ia (fun _=>ah (fun _=>rfl)) (fun h e=>by rw[e]at h;cases h)) (fun w hw=>?_);refine ak (fun h=>?_) (fun _=>aI (ah ⟨so.st.t,so.nt⟩))
   have:(g.2||(decide ((t.aW.length:Int)<16)))=true:=by
    cases vP:g.2 with
    |true=>rfl
    |false=>rw[vP,hw vP]at h;exact h
   refine au (si this) (fun q hq=>aV (aI (ah ⟨fun y hy=>?_,by rw[List.length_set];exact so.nt⟩)));rcases mem_set hy with hy|rfl
   ·exact so.st.t y hy
   ·exact hq
  rw[show Int.toNat x.gA=Int.toNat x.gA from rfl];refine au (aQ afE) ?_;rintro ts ⟨ht1,ht2⟩;refine aI (ah (a.norm (by omega) (by omega) ((so.ag4 mm ht1 ht2).up (Nat.le_succ k)) a.nx ?_));dsimp only;omega
 ·have e:x.cU=26:=by have:=wC h6;have:=wC h7;have:=wC h8;have:=wC h25;omega
  have r1:lz x.cU=1:=by rw[e];rfl
  have r2:eS x.cU=0:=by rw[e];rfl
  refine ak (fun _=>?_) (fun h=>absurd e (wC h));refine fI hA.1 hAl (fun t _ t2=>au (aQ (wy (by omega) (by omega) so.La)) ?_);rintro⟨v,_⟩ ⟨hv,s,rfl,Ba,hs⟩;refine au (aa0 (so.st.t t t2)) (fun q hq=>aV (aI (ah (a.norm (by omega) (by omega) ((so.ag4 hs (fun y hy=>?_) (by rw[List.length_set];exact so.nt)).up (Nat.le_succ k)) a.nx ?_))))
  ·rcases mem_set hy with hy|rfl
   ·exact so.st.t y hy
   ·exact hq
  ·dsimp only;omega
end
section
variable {E:XE} {k i:Nat} {m:aJ} {x:aC}
theorem abd(a:Pm E k i m x)(hk:k≤10000000):Wp (nU x m) (SP E (k+1)):=by
 have len:=a.len;have so:=a.so;have io:=a.io;have xi:=a.xi;have VK:=a.Cf.pop;have il:=a.il
 have p0:∀{o:Int},x.cU=o→1≤o→o≤5→fJ x=0∧eS x.cU=1:=by
  intro o e h1 h2;unfold fJ lz eS;rw[if_neg (by omega),if_neg (by omega),if_neg (by omega),if_pos (by omega)];exact⟨rfl,rfl⟩
 have pp:∀{β:Type} {v:Int} {t:Nat} {l:Rn} {f:aJ→Option β} {Q:β→Prop},Wp (f { m with cy:=m.cy++[v] }) Q→Wp (Bi (cl t l (dY v m)) f) Q:=fun h=>aA (by unfold cl;exact Ca (by omega)) h
 unfold nU;refine Wp.dX ?_;refine ak (fun h=>?_) (fun h1=>?_)
 ·have e:=xR h
  obtain⟨q1,q2⟩:=p0 e (by decide) (by decide);exact pp (aI (ah (a.push (I6.of (by have:=io.n0;have:=io.n1;omega)) q1 q2 (by omega) (by omega))))
 refine ak (fun h=>?_) (fun h2=>?_)
 ·have e:=xR h
  obtain⟨q1,q2⟩:=p0 e (by decide) (by decide);have hA:=xi.v (.inl e);exact fI hA.1 (by rw[so.nv];exact hA.2) (fun v _ v2=>pp (aI (ah (a.push (so.st.v v v2) q1 q2 (by omega) (by omega)))))
 refine ak (fun h=>?_) (fun h3=>?_)
 ·have e:=xR h
  obtain⟨q1,q2⟩:=p0 e (by decide) (by decide);have hA:=xi.p e;exact fI hA.1 (by rw[so.args];exact hA.2) (fun v _ v2=>pp (aI (ah (a.push (a.e.ai v (by rw[←so.args];exact v2)) q1 q2 (by omega) (by omega)))))
 refine ak (fun h=>?_) (fun h4=>?_)
 ·have e:=xR h
  obtain⟨q1,q2⟩:=p0 e (by decide) (by decide);have hA:=xi.f e;exact fI hA.1 (by rw[so.fl];exact hA.2) (fun v _ v2=>au (JW v) (fun b hb=>pp (aI (ah (a.push hb q1 q2 (by omega) (by omega))))))
 refine ak (fun h=>?_) (fun h5=>?_)
 ·have e:=xR h
  obtain⟨q1,q2⟩:=p0 e (by decide) (by decide);exact pp (aI (ah (a.push so.now q1 q2 (by omega) (by omega))))
 have e1:=wC h1;have e2:=wC h2;have e3:=wC h3;have e4:=wC h4;have e5:=wC h5;have o1:=io.op0;have o34:=io.op1
 -- two numbers,or tables
 have K4:∀b:Bool,b=decide (x.cU=6∨x.cU=7∨x.cU=8∨x.cU=25∨x.cU=26)→(11≤x.cU∧x.cU≤23∨x.cU=6∨x.cU=7∨x.cU=8∨x.cU=25∨x.cU=26)→Wp (hD x m b) (SP E (k+1)):=by
  intro b hb ho;refine ak (fun h=>?_) (fun h=>?_)
  ·rw[h]at hb
   have ht:x.cU=6∨x.cU=7∨x.cU=8∨x.cU=25∨x.cU=26:=of_decide_eq_true hb.symm;have hA:=xi.t ht;exact fI hA.1 (by rw[so.nt];exact hA.2) (fun _ _ _=>au (aQ (WZ a ht)) (fun q hq=>aI (ah hq)))
  ·rw[h]at hb
   have ht:¬(x.cU=6∨x.cU=7∨x.cU=8∨x.cU=25∨x.cU=26):=of_decide_eq_false hb.symm
   have hr:fJ x=2∧eS x.cU=1:=by
    unfold fJ lz eS;rw[if_neg (by omega),if_pos (by omega),if_neg (by omega),if_pos (by omega)];exact⟨rfl,rfl⟩
   refine au (aQ (wy (by omega) (by omega) so.La)) ?_;rintro⟨v,_⟩ ⟨hv,s,rfl,Ba,hs⟩;refine au (aQ (wy (m:={ m with cy:=s }) (by dsimp only;omega) (by dsimp only;omega) hs)) ?_;rintro⟨u,_⟩ ⟨hu,s',rfl,RL,mm⟩;dsimp only at RL hu hv;refine au (Vp hu) (fun q hq=>?_);refine aA (by unfold cl;exact Ca (m:={ m with cy:=s' }) (by dsimp only;omega)) (aI (ah ?_));refine a.norm (by omega) (by omega) ((so.stack (s:=s'++[q.1]) (fun y hy=>?_)).up (Nat.le_succ k)) a.nx ?_
   ·rcases List.mem_append.1 hy with hy|hy
    ·exact mm y hy
    ·simp at hy;subst hy;exact hq
   ·dsimp only;rw[List.length_append,List.length_singleton];omega
 have K3:∀b:Bool,b=decide (x.cU=32∨x.cU=33)→x.cU≠9→x.cU≠10→x.cU≠24→x.cU≠27→x.cU≠28→x.cU≠29→x.cU≠30→x.cU≠31→Wp (oq x m b) (SP E (k+1)):=by
  intro b hb n9 n10 n24 n27 n28 n29 n30 n31;refine ak (fun h=>?_) (fun h=>?_)
  ·rw[h]at hb
   exact au (aQ (ab6 a (of_decide_eq_true hb.symm) hk)) (fun q hq=>aI (ah hq))
  ·rw[h]at hb
   have ZF:¬(x.cU=32∨x.cU=33):=of_decide_eq_false hb.symm;refine ak (fun h34=>aI (ah ?_)) (fun h34=>cS ?_)
   ·refine⟨(⟨so.code,so.args,so.fl,so.now,so.fail,so.st,so.nv,so.nt,so.La,so.el,so.ef,so.s0,so.s8,so.d0,so.dk⟩:Nh E k { m with sF:=(m.cE.length:Int) }).up (Nat.le_succ k),by dsimp only;omega,by dsimp only;rw[so.code];omega,by dsimp only;omega,fun _ pE=>?_⟩
    dsimp only at pE;rw[so.code]at pE;omega
   ·have n34:=wC h34
    refine ak (fun h=>ax (K4 _ ?_ ?_)) (fun h6=>ak (fun h=>ax (K4 _ ?_ ?_)) (fun h7=>ak (fun h=>ax (K4 _ ?_ ?_)) (fun h8=>ak (fun h=>ax (K4 _ ?_ ?_)) (fun h25=>ax (K4 _ ?_ ?_)))))
    ·have:=xR h;rw[h,decide_eq_true (by omega)]
    ·have:=xR h;omega
    ·have:=xR h;rw[h,decide_eq_true (by omega)]
    ·have:=xR h;omega
    ·have:=xR h;rw[h,decide_eq_true (by omega)]
    ·have:=xR h;omega
    ·have:=xR h;rw[h,decide_eq_true (by omega)]
    ·have:=xR h;omega
    ·have:=wC h6;have:=wC h7;have:=wC h8;have:=wC h25
     show decide (x.cU=26)=_;exact decide_eq_decide.2 ⟨fun _=>by omega,fun _=>by omega⟩
    ·have:=wC h6;have:=wC h7;have:=wC h8;have:=wC h25;omega
 have K2:∀b:Bool,b=decide (x.cU=30∨x.cU=31)→x.cU≠9→x.cU≠10→x.cU≠24→x.cU≠27→x.cU≠28→x.cU≠29→Wp (ot x m b) (SP E (k+1)):=by
  intro b hb n9 n10 n24 n27 n28 n29;refine ak (fun h=>?_) (fun h=>?_)
  ·rw[h]at hb
   exact au (aQ (abf a (of_decide_eq_true hb.symm) hk)) (fun q hq=>aI (ah hq))
  ·rw[h]at hb
   have hns:¬(x.cU=30∨x.cU=31):=of_decide_eq_false hb.symm;refine cS (ak (fun h=>ax (K3 _ ?_ n9 n10 n24 n27 n28 n29 (by omega) (by omega))) (fun h=>ax (K3 _ ?_ n9 n10 n24 n27 n28 n29 (by omega) (by omega))))
   ·have:=xR h;rw[h,decide_eq_true (by omega)]
   ·have:=wC h
    show decide (x.cU=33)=_;exact decide_eq_decide.2 ⟨fun _=>by omega,fun _=>by omega⟩
 have K1:∀b:Bool,b=decide (x.cU=9∨x.cU=10)→Wp (ou x m b) (SP E (k+1)):=by
  intro b hb;refine ak (fun h=>?_) (fun h=>?_)
  ·rw[h]at hb
   have ho:x.cU=9∨x.cU=10:=of_decide_eq_true hb.symm
   have hr:fJ x=1∧eS x.cU=1:=by
    unfold fJ lz eS;rw[if_pos (by omega),if_neg (by omega),if_pos (by omega)];exact⟨rfl,rfl⟩
   refine au (aQ (wy (by omega) (by omega) so.La)) ?_;rintro⟨v,_⟩ ⟨hv,s,rfl,Ba,hs⟩;refine au WV (fun q hq=>?_);refine aA (by unfold cl;exact Ca (m:={ m with cy:=s }) (by dsimp only;omega)) (aI (ah ?_));refine a.norm (by omega) (by omega) ((so.stack (s:=s++[q.1]) (fun y hy=>?_)).up (Nat.le_succ k)) a.nx ?_
   ·rcases List.mem_append.1 hy with hy|hy
    ·exact hs y hy
    ·simp at hy;subst hy;exact hq
   ·dsimp only;rw[List.length_append,List.length_singleton];omega
  ·rw[h]at hb
   have hn:¬(x.cU=9∨x.cU=10):=of_decide_eq_false hb.symm;refine ak (fun h=>?_) (fun h24=>?_)
   ·have e:=xR h
    have hr:fJ x=1∧eS x.cU=0:=by
     unfold fJ lz eS;rw[if_pos (by omega),if_neg (by omega),if_neg (by omega)];exact⟨rfl,rfl⟩
    have hA:=xi.v (.inr (.inl e));refine au (aQ (wy (by omega) (by omega) so.La)) ?_;rintro⟨v,_⟩ ⟨hv,s,rfl,Ba,hs⟩;refine fI hA.1 (by rw[so.nv];exact hA.2) (fun _ _ _=>aV (aI (ah (a.norm (by omega) (by omega) ?_ a.nx ?_))))
    ·refine⟨so.code,so.args,so.fl,so.now,so.fail,⟨fun y hy=>?_,so.st.t,so.st.d⟩,by dsimp only;rw[List.length_set];exact so.nv,so.nt,hs,Nat.le_succ_of_le so.el,so.ef,so.s0,so.s8,so.d0,by have:=so.dk;dsimp only;omega⟩
     rcases mem_set hy with hy|rfl
     ·exact so.st.v y hy
     ·exact hv
    ·dsimp only;omega
   refine ak (fun h=>aI (ah ?_)) (fun h27=>?_)
   ·have e:=xR h
    have VL:pG x=some x.gA:=by unfold pG;rw[if_pos (by omega)]
    have hb:=(a.e.ci x (List.mem_of_getElem? a.hx)).2 _ VL
    have hr:fJ x=0∧eS x.cU=0:=by
     unfold fJ lz eS;rw[if_neg (by omega),if_neg (by omega),if_neg (by omega),if_neg (by omega)];exact⟨rfl,rfl⟩
    refine⟨(⟨so.code,so.args,so.fl,so.now,so.fail,so.st,so.nv,so.nt,so.La,so.el,so.ef,so.s0,so.s8,so.d0,so.dk⟩:Nh E k { m with sF:=x.gA }).up (Nat.le_succ k),hb.1,hb.2,by dsimp only;omega,fun _ _=>?_⟩;have:=a.Cf.jump _ VL;dsimp only;rw[this,hr.1,hr.2];congr 1 <;> omega
   refine ak (fun h=>?_) (fun h28=>?_)
   ·have e:=xR h
    have VL:pG x=some x.gA:=by unfold pG;rw[if_pos (by omega)]
    have hb:=(a.e.ci x (List.mem_of_getElem? a.hx)).2 _ VL
    have hr:fJ x=1∧eS x.cU=0:=by
     unfold fJ lz eS;rw[if_pos (by omega),if_neg (by omega),if_neg (by omega)];exact⟨rfl,rfl⟩
    refine au (aQ (wy (by omega) (by omega) so.La)) ?_;rintro⟨v,_⟩ ⟨hv,s,rfl,Ba,hs⟩;refine ak (fun _=>aI (ah ?_)) (fun _=>aI (ah (a.norm (by omega) (by omega) ((so.stack hs).up (Nat.le_succ k)) a.nx (by dsimp only;omega))));refine⟨(⟨so.code,so.args,so.fl,so.now,so.fail,so.st,so.nv,so.nt,hs,so.el,so.ef,so.s0,so.s8,so.d0,so.dk⟩:Nh E k { m with cy:=s,sF:=x.gA }).up (Nat.le_succ k),hb.1,hb.2,by dsimp only;omega,fun _ _=>?_⟩;have:=a.Cf.jump _ VL;dsimp only;rw[this,hr.1,hr.2];congr 1 <;> omega
   refine ak (fun h=>aI (ah ?_)) (fun h29=>?_)
   ·have e:=xR h
    have hr:fJ x=0∧eS x.cU=0:=by
     unfold fJ lz eS;rw[if_neg (by omega),if_neg (by omega),if_neg (by omega),if_neg (by omega)];exact⟨rfl,rfl⟩
    exact a.norm (by omega) (by omega) ⟨so.code,so.args,so.fl,so.now,so.fail,so.st,so.nv,so.nt,so.La,Nat.le_succ_of_le so.el,so.ef,so.s0,so.s8,so.d0,by have:=so.dk;dsimp only;omega⟩ a.nx (by dsimp only;omega)
   have n24:=wC h24;have n27:=wC h27;have n28:=wC h28;have n29:=wC h29;refine cS (ak (fun h=>ax (K2 _ ?_ (by omega) (by omega) n24 n27 n28 n29)) (fun h=>ax (K2 _ ?_ (by omega) (by omega) n24 n27 n28 n29)))
   ·have:=xR h;rw[h,decide_eq_true (by omega)]
   ·have:=wC h
    show decide (x.cU=31)=_;exact decide_eq_decide.2 ⟨fun _=>by omega,fun _=>by omega⟩
 refine cS (ak (fun h=>ax (K1 _ ?_)) (fun h=>ax (K1 _ ?_)))
 ·have:=xR h;rw[h,decide_eq_true (by omega)]
 ·have:=wC h
  show decide (x.cU=10)=_;exact decide_eq_decide.2 ⟨fun _=>by omega,fun _=>by omega⟩
end
abbrev mkX(s:Int×List Int×List aO×List cr×List cq×Int×List aC×List Int×Int×List Bool×Int×List Int×List Int×Int×Int×Int×Bool):aJ:=aJ.mk (bV.mk (aL.mk s.2.1 s.2.2.1 (aO.mk s.2.2.2.1)) s.2.2.2.2.1 s.2.2.2.2.2.1) s.2.2.2.2.2.2.1 (dV.mk s.2.2.2.2.2.2.2.1 s.2.2.2.2.2.2.2.2.1 s.2.2.2.2.2.2.2.2.2.1 s.2.2.2.2.2.2.2.2.2.2.1 s.2.2.2.2.2.2.2.2.2.2.2.1) s.2.2.2.2.2.2.2.2.2.2.2.2.1 s.2.2.2.2.2.2.2.2.2.2.2.2.2.1 s.2.2.2.2.2.2.2.2.2.2.2.2.2.2.1 s.2.2.2.2.2.2.2.2.2.2.2.2.2.2.2.1 s.2.2.2.2.2.2.2.2.2.2.2.2.2.2.2.2
section
variable {E:XE}
structure RP(E:XE)(m:aJ):Prop where
 st:Zs m.aE.bG
 el:m.aE.cZ.length≤1048580
 ef:∀e∈m.aE.cZ,acO E.N e
 fl:m.bX.aR=E.fl
 nv:m.aE.bG.ez.length=E.nv
 nt:m.aE.bG.cX.length=E.nt
theorem abJ(hE:afa E){m:aJ}(h:SP E 0 m)(hf:m.nJ=false):Wp (pj m) (RP E):=by
 unfold pj;refine ly (fun s=>0≤s.1∧s.1≤1048576∧SP E s.1.toNat (mkX s)∧(mkX s).nJ=false) (fun s=>(1048577-s.1).toNat) ⟨Int.le_refl _,by dsimp only;decide,h,hf⟩ (by dsimp only;decide) ?_;rintro⟨st,vs,ts,dk,ef,co,cs,ar,nw,fl,cd,fa,sk,nx,sn,ds,ft⟩ ⟨s0,s1,hs,hft⟩;dsimp only at s0 s1;have TJ:cs=E.cs:=hs.so.code;have ao8:0≤nx:=hs.n0;obtain rfl:ft=false:=hft;refine ak (fun hb=>?_) (fun hb=>ah (aI (ah ?_)))
 ·have pE:nx<(cs.length:Int):=by simpa using hb
  dsimp only
  -- the end of a step
  have fin:∀m':aJ,SP E (st.toNat+1) m'→(m'.nJ=false→st<1048576)→Wp (pC st (m'.aE.bG.ez,m'.aE.bG.cX,m'.aE.bG.dW.aW,m'.aE.cZ,m'.aE.jT,m'.cE,m'.bX.bR,m'.bX.BK,m'.bX.aR,m'.bX.dW,m'.bX.xb,m'.cy,m'.sF,m'.nI,m'.dh,m'.nJ))
    (Rdn (fun s=>(0≤s.1∧s.1≤1048576∧SP E s.1.toNat (mkX s)∧(mkX s).nJ=false)∧(1048577-s.1).toNat<(1048577-st).toNat) fun e=>Wp (match e with
     |.inl e42=>rX [(50000,10001),(50001,10002)] (some (aJ.mk (bV.mk (aL.mk e42.1 e42.2.1 (aO.mk e42.2.2.1)) e42.2.2.2.1 e42.2.2.2.2.1) e42.2.2.2.2.2.1 (dV.mk e42.2.2.2.2.2.2.1 e42.2.2.2.2.2.2.2.1 e42.2.2.2.2.2.2.2.2.1 e42.2.2.2.2.2.2.2.2.2.1 e42.2.2.2.2.2.2.2.2.2.2.1) e42.2.2.2.2.2.2.2.2.2.2.2.1 e42.2.2.2.2.2.2.2.2.2.2.2.2.1 e42.2.2.2.2.2.2.2.2.2.2.2.2.2.1 e42.2.2.2.2.2.2.2.2.2.2.2.2.2.2.1 e42.2.2.2.2.2.2.2.2.2.2.2.2.2.2.2))
     |.inr r=>some r) (RP E)):=by
   intro m' Nj yL;have RK:=Nj.so.el;refine ak (fun h=>?_) (fun h=>?_)
   ·refine aV (aK (xt (by dsimp only;omega) (by decide)) (aI (ah (ah ⟨Nj.so.st,?_,fun e he=>?_,Nj.so.fl,Nj.so.nv,Nj.so.nt⟩))))
    ·dsimp only;rw[List.length_append,List.length_singleton];omega
    ·rcases List.mem_append.1 he with he|he
     ·exact Nj.so.ef e he
     ·simp at he;subst he
      exact⟨by decide,by decide,fun e=>by simp at e,fun e=>by simp at e,show I6 0 from I6.of (by decide),show I6 0 from I6.of (by decide),show I6 0 from I6.of (by decide),by simp,by simp⟩
   ·have h':m'.nJ=false:=h
    have:=yL h';rw[wrap_i64 (n:=st+1) (by omega) (by omega)];refine ax (ah ⟨⟨by dsimp only;omega,by dsimp only;omega,?_,h'⟩,by dsimp only;omega⟩);have e:(st+1).toNat=st.toNat+1:=by omega
    dsimp only;rw[e];exact Nj
  refine cS (ak (fun h=>ax ?_) (fun h=>?_))
  ·have mm:SP E (st.toNat+1) (mkX (st,vs,ts,dk,ef,co,cs,ar,nw,fl,cd,fa,sk,nx,sn,ds,true)) :=
    ⟨(⟨hs.so.code,hs.so.args,hs.so.fl,hs.so.now,hs.so.fail,hs.so.st,hs.so.nv,hs.so.nt,hs.so.La,hs.so.el,hs.so.ef,hs.so.s0,hs.so.s8,hs.so.d0,hs.so.dk⟩:Nh E st.toNat (mkX (st,vs,ts,dk,ef,co,cs,ar,nw,fl,cd,fa,sk,nx,sn,ds,true))).up (Nat.le_succ _),hs.n0,hs.n1,hs.sl,fun h=>by cases h⟩
   exact fin _ mm (fun h=>by cases h)
  ·have yL:=wC h
   obtain⟨x,x1,x2,x3⟩:=mc (xs:=cs) ao8 pE
   rw[wrap_i64 (n:=nx+1) (by have:cs.length≤4000:=(by rw[TJ];exact hE.cl);omega) (by have:cs.length≤4000:=(by rw[TJ];exact hE.cl);omega)]
   refine aA x1 ?_;have hx:E.cs[nx.toNat]? = some x:=by rw[←TJ];exact x2
   have RG:nx<(E.cs.length:Int):=by rw[←TJ];exact pE
   obtain⟨hh,Cf⟩:=hE.hs nx.toNat x (by omega) hx;have hH:=hs.ht rfl RG
   have:hh=(sk.length:Int):=by
    have:=Cf.at_;have e:E.H[nx.toNat]? = some (sk.length:Int):=hH;rw[e]at this;exact(Option.some.inj this).symm
   subst this
   have Jc:Pm E st.toNat nx.toNat (mkX (st,vs,ts,dk,ef,co,cs,ar,nw,fl,cd,fa,sk,nx+1,sn,ds,false)) x :=
    ⟨hE,⟨hs.so.code,hs.so.args,hs.so.fl,hs.so.now,hs.so.fail,hs.so.st,hs.so.nv,hs.so.nt,hs.so.La,hs.so.el,hs.so.ef,hs.so.s0,hs.so.s8,hs.so.d0,hs.so.dk⟩,hx,by dsimp only[mkX];omega,Cf,rfl⟩
   exact au (aQ (abd Jc (by omega))) (fun m' Nj=>ax (fin m' Nj (fun _=>by omega)))
 ·exact⟨hs.so.st,by have:=hs.so.el;dsimp only[mkX]at this ⊢;omega,hs.so.ef,hs.so.fl,hs.so.nv,hs.so.nt⟩
end
theorem KO{o:Int}{c:Int}(h0:0≤o)(h1:o≤34):Gw (rJ o c):=by
 unfold rJ sD ju;exact au (Xx h0 h1) (fun r _=>od (od (ah (ah (ah trivial)))))
structure Fm(u:cD)(x:aC):Prop where
 p:x.cU=3→0≤x.gA∧x.gA<u.dM
 s:x.cU=30∨x.cU=31→0≤x.gB∧0≤x.gN∧x.gN≤4
 a:x.cU≠27→x.cU≠28→x.cU≠32→x.cU≠3→0≤x.gA
theorem Yn{u:cD}{x:aC}(h0:1≤x.cU)(h1:x.cU≤34):Wp (qR u x) fun b=>b=true→Fm u x:=by
 have no:Wp (some false) fun b=>b=true→Fm u x:=ah (fun h=>by cases h)
 have K1:x.cU≠3→(x.cU=30∨x.cU=31→0≤x.gB∧0≤x.gN∧x.gN≤4)→Wp (qy x ()) fun b=>b=true→Fm u x:=fun h3 hs=>ah (fun h=>by
  rw[Bool.and_eq_true,decide_eq_true_eq,decide_eq_true_eq]at h;exact⟨fun e=>absurd e h3,hs,fun _ _ _ _=>h.1⟩)
 have K3:∀b:Bool,b=decide (x.cU=30∨x.cU=31)→x.cU≠3→Wp (qx x b) fun b=>b=true→Fm u x:=by
  intro b hb h3;refine ak (fun h=>ak (fun _=>no) (fun hn=>ax (K1 h3 (fun _=>?_)))) (fun h=>ax (K1 h3 (fun e=>?_)))
  ·simp only[Bool.or_eq_false_iff,decide_eq_false_iff_not]at hn
   omega
  ·rw[h]at hb;exact absurd e (of_decide_eq_false hb.symm)
 have K2:∀b:Bool,b=decide (x.cU=27∨x.cU=28∨x.cU=32)→Wp (nY u x b) fun b=>b=true→Fm u x:=by
  intro b hb;refine ak (fun h=>ah (fun _=>?_)) (fun h=>ak (fun h3=>ah (fun e=>?_)) (fun h3=>cS ?_))
  ·rw[h]at hb
   have:=of_decide_eq_true hb.symm;exact⟨fun e=>by omega,fun e=>by omega,fun _ _ _ _=>by omega⟩
  ·have:=xR h3
   rw[Bool.and_eq_true,decide_eq_true_eq,decide_eq_true_eq]at e;exact⟨fun _=>e,fun _=>by omega,fun _ _ _ _=>by omega⟩
  ·have n3:=wC h3
   refine ak (fun h=>ax (K3 _ ?_ n3)) (fun h=>ax (K3 _ ?_ n3))
   ·have:=xR h;rw[h,decide_eq_true (by omega)]
   ·have:=wC h
    show decide (x.cU=31)=_;exact decide_eq_decide.2 ⟨fun _=>by omega,fun _=>by omega⟩
 unfold qR;refine ak (fun h=>no) (fun _=>?_);refine au (KO (by omega) h1) (fun v _=>?_);refine au (P:=fun _=>True) (ia (fun _=>KO (by omega) h1) (fun _=>trivial)) (fun w _=>?_);refine au (P:=fun _=>True) (ia (fun _=>KO (by omega) h1) (fun _=>trivial)) (fun z _=>?_);refine ak (fun h=>no) (fun _=>au ED (fun t _=>ak (fun h=>no) (fun _=>cS (cS ?_))));refine ak (fun h=>ax (K2 _ ?_)) (fun h27=>ak (fun h=>ax (K2 _ ?_)) (fun h28=>ax (K2 _ ?_)))
 ·have:=xR h;rw[h,decide_eq_true (by omega)]
 ·have:=xR h;rw[h,decide_eq_true (by omega)]
 ·have:=wC h27;have:=wC h28
  show decide (x.cU=32)=_;exact decide_eq_decide.2 ⟨fun _=>by omega,fun _=>by omega⟩
structure Vf(u:cD):Prop where
 fm:∀x∈u.rS,Fm u x
 cl:u.rS.length≤4000
 hh:∃(H:List Int) (top:Int),H.length=u.rS.length+1∧HS u.rS H top u.rS.length∧(0<u.rS.length→H[0]? = some 0)∧top≤64
theorem TR{N:Nat}{u:cD}(h:Qe N u):Wp (xh u) fun v=>v=0→Vf u:=by
 have hl:=h.len;unfold xh;refine ak (fun _=>ah (fun h=>by cases h)) (fun h1=>ak (fun _=>ah (fun h=>by cases h)) (fun h2=>?_));simp only[Bool.or_eq_false_iff,decide_eq_false_iff_not]at h1 h2;refine eI (fun j _=>∀(k:Nat) (x:aC),k<j→u.rS[k]? = some x→Fm u x) (by unfold m64;omega) (fun k x h=>by omega) ?_ ?_
 ·intro j _ hj hI
  refine bJ hj (fun x x1 x2=>?_);have io:=(h.ci x x2).1;refine au (Yn io.op0 io.op1) (fun b hb=>ak (fun _=>ah (ah (fun h=>by cases h))) (fun hn=>ax (ah (fun k y hk hy=>?_))));have Ky:b=true:=by simpa using hn
  rcases Nat.lt_or_ge k j with pE|hge
  ·exact hI k y pE hy
  ·obtain rfl:k=j:=by omega
   rw[x1]at hy;obtain rfl:=Option.some.inj hy;exact hb Ky
 ·intro _ hI
  rw[Int.toNat_natCast]at hI;refine au (Hn h.ci (by omega)) (fun v hv=>ak (fun _=>ah (fun h=>by cases h)) (fun hn=>ah (fun _=>?_)));simp only[Bool.or_eq_false_iff,Bool.not_eq_false',bne_eq_false_iff_eq]at hn;obtain⟨H,q1,q2,q3,_⟩:=hv hn.1;refine⟨fun x hx=>?_,by omega,H,v.1,q1,q2,q3,by omega⟩;obtain⟨k,hk,rfl⟩:=List.getElem_of_mem hx;exact hI k _ hk (List.getElem?_eq_getElem hk)
theorem Uo{x:aC}{s:aL}{a:List Int}{n d:Int}{f:List Int}{fl:List Bool}:Wp (ux x s a n d f fl) fun b=>b=true→(x.cU=2∨x.cU=24∨x.cU=33→x.gA<s.ez.length)∧(x.cU=4→x.gA<fl.length)∧(x.cU=6∨x.cU=7∨x.cU=8∨x.cU=25∨x.cU=26→x.gA<s.cX.length):=by
 have K3:∀b:Bool,b=decide (x.cU=6∨x.cU=7∨x.cU=8∨x.cU=25∨x.cU=26)→¬(x.cU=2∨x.cU=24∨x.cU=33)→x.cU≠4→Wp (mg x s b) fun b=>b=true→(x.cU=2∨x.cU=24∨x.cU=33→x.gA<s.ez.length)∧(x.cU=4→x.gA<fl.length)∧(x.cU=6∨x.cU=7∨x.cU=8∨x.cU=25∨x.cU=26→x.gA<s.cX.length):=by
  intro b hb n2 n4;refine ak (fun h=>aI (ah (fun e=>⟨fun e=>absurd e n2,fun e=>absurd e n4,fun _=>by simpa using e⟩))) (fun h=>ax (aI (ah (fun _=>⟨fun e=>absurd e n2,fun e=>absurd e n4,fun e=>?_⟩))));rw[h]at hb;exact absurd e (of_decide_eq_false hb.symm)
 have K2:∀b:Bool,b=decide (x.cU=2∨x.cU=24∨x.cU=33)→Wp (qQ x s fl b) fun b=>b=true→(x.cU=2∨x.cU=24∨x.cU=33→x.gA<s.ez.length)∧(x.cU=4→x.gA<fl.length)∧(x.cU=6∨x.cU=7∨x.cU=8∨x.cU=25∨x.cU=26→x.gA<s.cX.length):=by
  intro b hb;refine ak (fun h=>aI (ah (fun e=>?_))) (fun h=>ak (fun h4=>aI (ah (fun e=>?_))) (fun h4=>cS ?_))
  ·rw[h]at hb
   have:=of_decide_eq_true hb.symm;exact⟨fun _=>by simpa using e,fun _=>by omega,fun _=>by omega⟩
  ·have:=xR h4
   exact⟨fun _=>by omega,fun _=>by simpa using e,fun _=>by omega⟩
  ·have n4:=wC h4
   rw[h]at hb;have n2:¬(x.cU=2∨x.cU=24∨x.cU=33):=of_decide_eq_false hb.symm;refine ak (fun h=>ax (K3 _ ?_ n2 n4)) (fun h6=>ak (fun h=>ax (K3 _ ?_ n2 n4)) (fun h7=>ak (fun h=>ax (K3 _ ?_ n2 n4)) (fun h8=>ak (fun h=>ax (K3 _ ?_ n2 n4)) (fun h25=>ax (K3 _ ?_ n2 n4)))))
   ·have:=xR h;rw[h,decide_eq_true (by omega)]
   ·have:=xR h;rw[h,decide_eq_true (by omega)]
   ·have:=xR h;rw[h,decide_eq_true (by omega)]
   ·have:=xR h;rw[h,decide_eq_true (by omega)]
   ·have:=wC h6;have:=wC h7;have:=wC h8;have:=wC h25
    show decide (x.cU=26)=_;exact decide_eq_decide.2 ⟨fun _=>by omega,fun _=>by omega⟩
 unfold ux;refine cS (cS (ak (fun h=>ax (K2 _ ?_)) (fun h2=>ak (fun h=>ax (K2 _ ?_)) (fun h24=>ax (K2 _ ?_)))))
 ·have:=xR h;rw[h,decide_eq_true (by omega)]
 ·have:=xR h;rw[h,decide_eq_true (by omega)]
 ·have:=wC h2;have:=wC h24
  show decide (x.cU=33)=_;exact decide_eq_decide.2 ⟨fun _=>by omega,fun _=>by omega⟩
theorem Xm{l:List Int}(hl:l.length≤12):Wp (lK l) fun r=>r.length=l.length:=by
 unfold lK;refine au (Ml _) (fun v _=>au (P:=fun r=>r.length=l.length) (aQ ?_) (fun r h=>aI (ah h)));unfold ky;refine KM (ak (fun _=>au (P:=fun r=>r.length=l.length) (aQ ?_) (fun r h=>aI (ah h))) (fun h=>?_))
 ·unfold iq
  refine ly (fun s=>s.1.length=l.length∧1≤s.2∧s.2≤100) (fun s=>(100-s.2).toNat) ⟨rfl,by dsimp only;decide,by dsimp only;decide⟩ (by dsimp only;decide) ?_;rintro⟨s,i⟩ ⟨s1,i1,i2⟩;dsimp only at s1 i1 i2 ⊢;refine ak (fun hb=>?_) (fun _=>ah (aI (ah s1)));have hi:i<(l.length:Int):=by simpa using hb
  refine ly (fun t=>t.1.length=l.length∧0≤t.2∧t.2≤i) (fun t=>t.2.toNat) ⟨s1,by dsimp only;omega,by dsimp only;omega⟩ (by dsimp only;omega) ?_;rintro⟨t,j⟩ ⟨t1,j0,j1⟩;dsimp only at t1 j0 j1 ⊢;rw[wrap_i64 (n:=j-1) (by omega) (by omega)];refine au (P:=fun _=>True) (ia (fun h=>Bt j0 (by omega) (fun _ _ _=>trivial)) (fun _=>trivial)) (fun a _=>?_)
  refine au (P:=fun _=>True) (ia (fun h=>Bt (by have:(0:Int)<j:=of_decide_eq_true h;omega) (by omega) (fun _ _ _=>trivial)) (fun _=>trivial)) (fun b _=>?_)
  refine au (P:=fun _=>True) (ia (fun _=>Ou _ _) (fun _=>trivial)) (fun c _=>?_);refine ak (fun h=>?_) (fun _=>ah (ax (ah ⟨⟨t1,?_,?_⟩,?_⟩)))
  ·have hj:0<j:=by rw[Bool.and_eq_true]at h;exact of_decide_eq_true h.1
   refine fI (by omega) (by omega) (fun _ _ _=>fI j0 (by omega) (fun _ _ _=>aV (fI (by omega) (by rw[List.length_set];omega) (fun _ _ _=>aV (ax (ah ⟨⟨by dsimp only;rw[List.length_set,List.length_set];exact t1,by dsimp only;omega,by dsimp only;omega⟩,by dsimp only;omega⟩))))))
  all_goals (dsimp only;rw[wrap_i64 (by omega) (by omega)];omega)
 ·rw[wrap_i64 (by omega) (by omega)]at h
  simp at h;omega
structure XR(N:Nat)(fl:List Bool)(r:bV×Int×List Bool):Prop where
 fl:r.2.2=fl
 st:r.2.1=0→Zs r.1.bG
 el:r.2.1=0→r.1.cZ.length≤1048580
 ef:r.2.1=0→∀e∈r.1.cZ,acO N e
theorem acN{N:Nat}{u:cD}{s:aL}{a:List Int}{n d:Int}{f:List Int}{fl:List Bool}(hu:Qe N u)(hs:Zs s)(ha:∀x∈a,I6 x)(hn:I6 n)(hf:f.length≤12)(hv:s.ez.length≤1000)(ht:s.cX.length≤1000):Wp (yB u s a n d f fl) fun r=>XR N fl r∧(r.2.1=0→r.1.bG.ez.length=s.ez.length∧r.1.bG.cX.length=s.cX.length):=by
 have bad:∀{e:Int},e≠0→XR N fl ((bV.mk (aL.mk [] [] (aO.mk [])) [] 0),e,fl)∧(((bV.mk (aL.mk [] [] (aO.mk [])) [] 0),e,fl).2.1=0→((bV.mk (aL.mk [] [] (aO.mk [])) [] 0),e,fl).1.bG.ez.length=s.ez.length∧((bV.mk (aL.mk [] [] (aO.mk [])) [] 0),e,fl).1.bG.cX.length=s.cX.length):=fun h=>⟨⟨rfl,fun e=>absurd e h,fun e=>absurd e h,fun e=>absurd e h⟩,fun e=>absurd e h⟩
 have hul:=hu.len;unfold yB;refine au (TR hu) (fun v TD=>ak (fun h=>aI (ah (bad (by simpa using h)))) (fun h0=>?_));obtain⟨fm,cl4,H,top,q1,q2,q3,q4⟩:=TD (by simpa using h0);refine ak (fun _=>aI (ah (bad (by decide)))) (fun hp=>?_);have Wn:(a.length:Int)=u.dM:=by simpa using hp
 refine eI (fun j _=>∀(k:Nat) (x:aC),k<j→u.rS[k]? = some x→XIn s.ez.length a.length fl.length s.cX.length x) (by unfold m64;omega) (fun k x h=>by omega) ?_ ?_
 ·intro j _ hj hI
  refine bJ hj (fun x x1 x2=>?_);refine au (aQ Uo) (fun b hb=>ak (fun _=>aI (ah (ah (bad (by decide))))) (fun hn=>ax (ah (fun k y hk hy=>?_))));obtain⟨g1,g2,g3⟩:=hb (by simpa using hn);have hfm:=fm x x2;rcases Nat.lt_or_ge k j with pE|hge
  ·exact hI k y pE hy
  ·obtain rfl:k=j:=by omega
   rw[x1]at hy;obtain rfl:=Option.some.inj hy;refine⟨fun e=>⟨hfm.a (by omega) (by omega) (by omega) (by omega),g1 e⟩,fun e=>?_,fun e=>⟨hfm.a (by omega) (by omega) (by omega) (by omega),g2 e⟩,fun e=>⟨hfm.a (by omega) (by omega) (by omega) (by omega),g3 e⟩,hfm.s⟩;have:=hfm.p e;omega
 ·intro _ hI
  rw[Int.toNat_natCast]at hI
  have cI:∀{l:List Int},l.length≤1000→iu l=some l:=fun h=>by
   unfold iu;rw[tT (Ed (by simp;omega) (by decide))];simp
  have cT:∀{l:List aO},l.length≤1000→eL l=some l:=fun h=>by
   unfold eL;rw[tT (Ed (by simp;omega) (by decide))];simp
  have cN:kj f=some f:=by
   unfold kj;rw[tT (Ed (by simp;omega) (by decide))];simp
  refine cR (aA (by unfold cl;exact cN) (au (aQ (Xm hf)) (fun sf hsf=>aA (by unfold cl;exact cI hv) (aA (by unfold cl;exact cT ht) (cR ?_)))))
  let E:XE:=⟨u.rS,H,top,N,s.ez.length,s.cX.length,a,fl⟩
  have hE:afa E:=⟨q2,q1,q4,cl4,hu.ci,fun x hx=>by
   obtain⟨k,hk,rfl⟩:=List.getElem_of_mem hx;exact hI k _ hk (List.getElem?_eq_getElem hk),ha⟩
  have h0:SP E 0 (aJ.mk (bV.mk (aL.mk s.ez s.cX s.dW) ([]:List cq) 0) u.rS (dV.mk a n fl d sf) ([]:List Int) 0 0 0 false):=by
   refine⟨⟨rfl,rfl,rfl,hn,by dsimp only;omega,hs,rfl,rfl,by simp,by simp,by simp,Int.le_refl _,by dsimp only;decide,Int.le_refl _,by dsimp only;decide⟩,Int.le_refl _,by dsimp only;omega,by simp,fun _ pE=>?_⟩;dsimp only at pE ⊢
   exact q3 (by have:(0:Int)<(u.rS.length:Int):=pE;omega)
  refine au (aQ (abJ hE h0 rfl)) (fun m' Nj=>cR (aI (ah ⟨⟨Nj.fl,fun _=>Nj.st,fun _=>Nj.el,fun _=>Nj.ef⟩,fun _=>⟨Nj.nv,Nj.nt⟩⟩)))
theorem apB{k n:Nat}(h:n≤100000000000)(hk:k≤1000):dL k n:=by
 have:=Nat.mul_le_mul h hk;unfold dL;omega
theorem gx{n:Nat}(h:n≤9223372036854775807):(n:Int)≤m64:=by unfold m64;omega
abbrev fN(F:cH):Nat:=F.qn.aF.length
section
variable {F:cH} {i j:Int}
theorem AE.n3(h:AE F):fN F≤3:=by obtain⟨gP,h⟩:=h.tree;exact h.n3
theorem AE.f2(h:AE F):F.qn.aR.length≤2:=by obtain⟨gP,h⟩:=h.tree;exact h.f2
theorem Fcs:fb F=some (fN F:Int):=rfl
theorem Ffs:nA F=some (F.qn.aR.length:Int):=rfl
theorem Gu(h0:0≤i)(h1:i<(fN F:Int)):Wp (gC F i) fun x=>F.qn.aF[i.toNat]? = some x:=by
 unfold gC;refine gh (by simpa using h0) Fcs (ak (fun h=>?_) (fun _=>fI h0 h1 (fun x x1 _=>ah x1)));rw[Bool.or_eq_true,decide_eq_true_eq,decide_eq_true_eq]at h;omega
theorem AE.vars(h:AE F){x:aM}(hx:F.qn.aF[i.toNat]? = some x):x.ez.length≤10∧∀v∈x.ez,I6 v.uT:=by
 obtain⟨gP,h⟩:=h.tree;obtain⟨I,T,r,g⟩:=h.cs _ x hx;have:=g.i3;have:=g.t1;rw[g.vars];unfold vj;refine⟨by simp;omega,fun v hv=>?_⟩;simp only[List.mem_append,List.mem_map,List.mem_range,List.mem_singleton]at hv;rcases hv with(⟨k,hk,rfl⟩ | rfl)|⟨k,hk,rfl⟩
 ·exact I6.of (by dsimp only;omega)
 ·exact I6.of (by decide)
 ·exact I6.of (show -1000000000≤(0:Int)∧(0:Int)≤1000000000 by decide)
structure StL(s:aL):Prop where
 ok:Zs s
 v:s.ez.length≤1000
 t:s.cX.length≤1000
theorem HM(h:AE F)(h0:0≤i)(h1:i<(fN F:Int)):Wp (lp F i) StL:=by
 unfold lp;refine au (Gu h0 h1) (fun x hx=>?_);obtain⟨v1,v2⟩:=h.vars hx;refine cw (fun j s=>s.1.length≤j∧s.2.length≤j∧(∀y∈s.1,I6 y)∧∀y∈s.2,AB y) (gx (by omega)) ⟨by simp,by simp,by simp,by simp⟩ ?_ ?_
 ·rintro j ⟨s,t⟩ hj ⟨q1,q2,q3,q4⟩
  dsimp only at q1 q2 q3 q4;refine bJ hj (fun v _ vm=>ak (fun _=>aV (aK (xt (by dsimp only;omega) (by decide)) (ax (ah ⟨?_,?_,q3,fun y hy=>?_⟩)))) (fun _=>aV (aK (xt (by dsimp only;omega) (by decide)) (ax (ah ⟨?_,?_,fun y hy=>?_,q4⟩)))))
  ·dsimp only;omega
  ·dsimp only;rw[List.length_append,List.length_singleton];omega
  ·rcases List.mem_append.1 hy with hy|hy
   ·exact q4 y hy
   ·simp at hy;subst hy;exact AB.nil
  ·dsimp only;rw[List.length_append,List.length_singleton];omega
  ·dsimp only;omega
  ·rcases List.mem_append.1 hy with hy|hy
   ·exact q3 y hy
   ·simp at hy;subst hy;exact v2 v vm
 ·rintro⟨s,t⟩ ⟨q1,q2,q3,q4⟩
  dsimp only at q1 q2 q3 q4;rw[Int.toNat_natCast]at q1 q2;exact cR (ah ⟨⟨q3,q4,AB.nil⟩,by dsimp only;omega,by dsimp only;omega⟩)
theorem AE.pc(h:AE F)(h0:0≤i)(h1:i<(fN F:Int)):∃x,idx F.yw.oC i=some x∧acG (fN F) x:=by
 have:=h.prog.n;obtain⟨x,x1,_,x3⟩:=mc (xs:=F.yw.oC) h0 (by rw[this];exact h1);exact⟨x,x1,h.prog.cs x x3⟩
theorem FF(h:AE F)(h0:0≤i)(h1:i<(fN F:Int)):Wp (jf F i) fun l=>l.length≤6:=by
 have hn:=h.prog.n;unfold jf lU;refine od (ak (fun h'=>?_) (fun _=>?_))
 ·exact ah (ah (by simp))
 obtain⟨x,x1,x2⟩:=h.pc h0 h1;have:=x2.n6;refine aA x1 (aA (x:=x.zu) ?_ (cR (ah (ah this))));unfold cl iX;rw[tT (Ed (by simp;omega) (by decide))];simp
theorem VA{v k:Int}(h:AE F)(h0:0≤i)(h1:i<(fN F:Int)):Wp (ph F i v k) fun r=>r.2=true→0≤k∧k<6:=by
 unfold ph;refine au (Gu h0 h1) (fun x hx=>au (FF h h0 h1) (fun l hl=>ak (fun _=>ah (fun h=>by cases h)) (fun hc=>?_)));simp only[Bool.or_eq_false_iff,decide_eq_false_iff_not]at hc;obtain⟨gP,ht⟩:=h.tree;obtain⟨I,T,r,g⟩:=ht.cs _ x hx;have:=g.v2;have hr:=ht.ar r (List.mem_of_getElem? g.ar);have Nr:(List.take (Int.toNat v) x.aX).length≤2:=by rw[List.length_take];omega
 refine aK ⟨by omega,by omega,by omega⟩ (eI (fun _ _=>True) (gx (by omega)) trivial ?_ (fun _ _=>ah (fun h=>by cases h)));intro j _ hj _;refine bJ hj (fun u u1 u2=>?_);have hu:=(g.h1 u (List.mem_of_mem_take u2)).2;refine eI (fun _ _=>True) (gx (by omega)) trivial ?_ (fun _ _=>ax (ah trivial));intro q _ hq _;exact bJ hq (fun y _ _=>fI (by omega) (by omega) (fun z _ _=>ak (fun _=>ah (ah (ah (fun _=>⟨by omega,by omega⟩)))) (fun _=>ax (ah trivial))))
theorem acx{v k:Int}(h:AE F)(h0:0≤i)(h1:i<(fN F:Int))(hv:v≤1000):Wp (qP F i v k) fun r=>Qe (fN F) r.1:=by
 unfold qP sJ;refine au (P:=fun r=>Qe (fN F) r.1) ?_ (fun r hr=>ah hr);refine ak (fun _=>ah Qe.zero) (fun _=>?_);obtain⟨x,x1,x2⟩:=h.pc h0 h1;refine aA x1 ?_;have n6:=x2.n6;have uf:=x2.uf;cases hg:(((decide (v<1))||(decide ((x.BJ.length:Int)<v)))||(decide (k<0)))||(decide ((x.zu.length:Int)≤k))with
 |true=>exact aA rfl (aA rfl (ak (fun _=>ah Qe.zero) (fun h=>by cases h)))
 |false=>
  simp only[Bool.or_eq_false_iff,decide_eq_false_iff_not]at hg;have wv:IntKind.wrap .i64 (v-1)=v-1:=wrap_i64 (by omega) (by omega);rw[wv];obtain⟨fs,f1,_,f3⟩:=mc (xs:=x.Hq) (i:=v-1) (by omega) (by omega);have fl:=x2.fs fs f3;obtain⟨b,b1,_,_⟩:=mc (xs:=fs) (i:=k) (by omega) (by omega);refine gh rfl f1 (gh rfl b1 (ak (fun _=>ah Qe.zero) (fun _=>?_)));refine fI (by omega) (by omega) (fun us _ u3=>?_);obtain⟨ul,uo⟩:=x2.us us u3;refine fI (by omega) (by omega) (fun u _ um=>?_);have ho:=uo u um;have hl:=ho.len;refine aA (x:=u.rS) ?_ (cR (ah ?_))
  ·unfold cl fK
   rw[tT (Ed (by simp;omega) (by decide))];simp
  ·exact ho
theorem Tz(h0:0≤i)(h1:i<(fN F:Int)):Gw (oI F i):=by
 unfold oI;exact au (Gu h0 h1) (fun _ _=>ah trivial)
theorem AE.lk(h:AE F):F.qn.fP.length≤9∧∀l∈F.qn.fP,1≤l.qN∧l.qN≤3:=by
 have n3:=h.n3;obtain⟨gP,h⟩:=h.tree;obtain⟨ks,k1,k2,k3⟩:=h.lk;rw[k3];refine⟨?_,fun l hl=>?_⟩
 ·have:=Lr (F.qn.aF.length*F.qn.aF.length) (ks.map (·.1)) k1 (fun x hx=>by
   obtain⟨p,hp,rfl⟩:=List.mem_map.1 hx;exact(k2 p hp).1)
  have h9:F.qn.aF.length*F.qn.aF.length≤3*3:=Nat.mul_le_mul n3 n3;simp at this ⊢;omega
 ·obtain⟨p,hp,rfl⟩:=List.mem_map.1 hl
  exact(k2 p hp).2
theorem Rz(h:AE F)(h0:0≤i)(h1:i<(fN F:Int))(h2:0≤j)(h3:j<(fN F:Int)):Wp (nT F i j) fun r=>0≤r∧r≤3:=by
 obtain⟨l9,l3⟩:=h.lk;unfold nT;refine aA Fcs (ak (fun _=>ah (by decide)) (fun _=>?_));refine eI (fun _ _=>True) (gx (by omega)) trivial ?_ (fun _ _=>ah (by decide));intro q _ hq _;refine bJ hq (fun y _ ym=>au (Tz h0 h1) (fun z _=>au (P:=fun _=>True) (ia (fun _=>Tz h2 h3) (fun _=>trivial)) (fun z2 _=>ak (fun _=>ah (ah ?_)) (fun _=>ax (ah trivial)))));have:=l3 y ym;exact⟨by omega,this.2⟩
theorem Pe(h0:0≤i):Gw (mN F i):=by
 unfold mN tP;refine au (P:=fun _=>True) ?_ (fun _ _=>ah trivial);refine gh (by simpa using h0) Ffs (ak (fun h=>ah trivial) (fun hc=>?_));simp only[Bool.or_eq_false_iff,decide_eq_false_iff_not]at hc;exact fI h0 (by omega) (fun _ _ _=>ah trivial)
theorem Pb(h0:0≤i)(h1:i<(fN F:Int)):Gw (mM F i):=by
 unfold mM;exact au (Gu h0 h1) (fun _ _=>ah trivial)
end
structure Fits(F:cH)(c:aq):Prop where
 a:c.cG.bw=1∨c.cG.bw=3∨c.cG.bw=4→c.cG.gA<(fN F:Int)
 b:c.cG.bw=2→c.cG.gA<(F.qn.aR.length:Int)
theorem RA{F:cH}{c:aq}(h:AE F)(hc:AF c):Wp (tB c F) fun v=>v=0→Fits F c:=by
 have K1:∀(n m:Int),(n≤(fN F:Int)∨c.cG.bw=2)→(c.cG.bw=1∨c.cG.bw=3∨c.cG.bw=4→n=(fN F:Int))→(c.cG.bw=2→n=(F.qn.aR.length:Int))→Wp (nB c F (n,m)) fun v=>v=0→Fits F c:=by
  intro n m hn h1 h2;refine ak (fun _=>ah (fun h=>by cases h)) (fun hh=>?_);simp only[Bool.or_eq_false_iff,decide_eq_false_iff_not]at hh;refine au (P:=fun _=>True) (ia (fun e=>Pb hc.a0 ?_) (fun _=>trivial)) (fun v _=>ak (fun _=>ah (fun h=>by cases h)) (fun _=>ah (fun _=>⟨fun e=>?_,fun e=>?_⟩)))
  ·have:=xR e
   have:=h1 (by omega);omega
  ·have:=h1 e;omega
  ·have:=h2 e;omega
 have K2:∀b:Bool,c.cG.bw≠2→Wp (qh c F (fN F:Int) b) fun v=>v=0→Fits F c:=fun b h2=>ak (fun _=>ax (K1 _ _ (.inl (Int.le_refl _)) (fun _=>rfl) (fun e=>absurd e h2))) (fun _=>ax (K1 _ _ (.inl (Int.le_refl _)) (fun _=>rfl) (fun e=>absurd e h2)))
 unfold tB;refine aA (ZA hc) (ak (fun h=>by cases h) (fun _=>aA Fcs (cS ?_)));refine ak (fun e=>?_) (fun n1=>ak (fun e=>?_) (fun n2=>cS ?_))
 ·have e1:=xR e
  by_cases hA:c.cG.gA<(fN F:Int)
  ·exact au (FF h hc.a0 hA) (fun l _=>ax (K1 _ _ (.inl (Int.le_refl _)) (fun _=>rfl) (fun e=>by omega)))
  ·refine au (P:=fun _=>True) ?_ (fun l _=>ax (K1 _ _ (.inl (Int.le_refl _)) (fun _=>rfl) (fun e=>by omega)))
   unfold jf lU;have hn:F.yw.oC.length=fN F:=h.prog.n;refine od (ak (fun h'=>ah (ah trivial)) (fun h'=>?_));rw[hn]at h';simp only[Bool.or_eq_false_iff,decide_eq_false_iff_not]at h';omega
 ·have e1:=xR e
  exact aA Ffs (ax (K1 _ _ (.inr e1) (fun e=>by omega) (fun _=>rfl)))
 ·have:=wC n2
  exact ak (fun _=>ax (K2 _ this)) (fun _=>ak (fun _=>ax (K2 _ this)) (fun _=>ax (K2 _ this)))
theorem RU{α:Type}{xs:List α}{j:Nat}{x:α}(h:xs[j]? = some x):xs.take j++[x]=xs.take (j+1):=by
 rw[List.take_add_one,h];rfl
theorem cpI{α:Type}{xs:List α}{j:Nat}{x:α}{s:List α}(hs:s=xs.take j)(h:xs[j]? = some x):s++[x]=xs.take (j+1):=by
 rw[hs];exact RU h
theorem Cg{a:bZ}(h:a.bR.length≤1000):gV a=some a:=by
 unfold gV;exact ca (aK (Ed (by omega) (by decide)) (cR (ah rfl)))
theorem XT{x:Int}:fZ x=some (decide (0≤x)&&decide (x<8)):=rfl
theorem Ap{x:Int}(h0:0≤x)(h1:x<8):fZ x=some true:=by
 rw[XT,decide_eq_true h0,decide_eq_true h1];rfl
theorem WU{h:aU}(H:Zy h):uv h=some true:=by
 have f0:=H.f0;have f1:=H.f1;have t0:=H.t0;have t1:=H.t1;have n0:=H.n0;have n1:=H.n1;have al:=H.al;unfold uv;refine ca ?_;refine aA (Ap f0 (by omega)) (gh rfl (Ap t0 (by omega)) (ak (fun hh=>?_) (fun _=>?_)))
 ·simp only[Bool.or_eq_true,decide_eq_true_eq,Bool.not_true,Bool.false_eq_true,false_or]at hh
  omega
 refine eI (fun j s=>∀(i:Nat) (x:bZ),j≤i→h.gY[i]? = some x→s≤x.AN) (gx (by omega)) ?_ ?_ (fun _ _=>ah rfl)
 ·intro i x _ hx
  exact(H.ar x (List.mem_of_getElem? hx)).t0
 ·intro j s hj hs
  refine bJ hj (fun x x1 x2=>?_);have a:=H.ar x x2;have h0:=a.h0;have h1:=a.h1;have al:=a.al;have:=hs j x (Nat.le_refl _) x1;refine ak (fun hh=>?_) (fun _=>ax (ah (fun i y hi hy=>?_)))
  ·simp only[Bool.or_eq_true,decide_eq_true_eq]at hh
   omega
  ·obtain⟨Nl,rfl⟩:=List.getElem?_eq_some_iff.1 x1
   obtain⟨Fk,rfl⟩:=List.getElem?_eq_some_iff.1 hy;exact(List.pairwise_iff_getElem.1 H.up) j i Nl Fk (by omega)
theorem Yi{m:ei}{l:List aU}(hl:l.length≤1000):Wp (fB m l) fun v=>0≤v→∃h∈l,h.cu.gS=m.gS∧h.cu.uS=m.uS∧h.cu.gN=m.gN:=by
 unfold fB;refine eI (fun _ _=>True) (gx (by omega)) trivial ?_ (fun _ _=>aI (ah (fun h=>by cases h)));intro j _ hj _;refine bJ hj (fun x x1 x2=>aA (x:=(x.cu.gS==m.gS)&&((x.cu.uS==m.uS)&&((x.cu.gN==m.gN)&&true))) ?_ (ak (fun h=>aI (ah (ah (fun _=>⟨x,x2,?_⟩)))) (fun _=>ax (ah trivial))))
 ·exact ca (aQ (by unfold mr;exact aI (ah rfl)))
 ·simpa using h
def Zx(m:ei)(l:List aU):Prop:=∃h∈l,h.cu.gS=m.gS∧h.cu.uS=m.uS∧h.cu.gN=m.gN
theorem SK{m:ei}{o:aj}(hl:o.df.length≤1000):Wp (js m o) fun v=>v=true→Zx m o.df:=by
 unfold js fS;refine au (P:=fun v=>v=true→Zx m o.df) (aQ (au (aQ (Yi hl)) (fun v hv=>aI (ah (fun h=>hv (of_decide_eq_true h)))))) (fun v hv=>aI (ah hv))
structure xu(I:dt)(cs cd:Int)(o:aj):Prop where
 ch:o.gf.aW=I.je.aW
 hs:o.df=I.ql
 se:∀a b,a<8→b<8→0≤o.cY a b∧o.cY a b≤cs
 ti:∀a,a<8→0≤o.eG a∧o.eG a≤cs
 di:∀a,a<8→0≤o.dh a∧o.dh a≤cd
 cl:∀p∈o.bh,∃c∈I.je.aW,p.1=c.cG
 cn:(o.bh.map fun p=>pO p.1).Nodup
theorem z8:∀a,a<8→(arr (0:Int) [0,0,0,0,0,0,0,0]) a=0:=by decide
theorem z88:∀a,a<8→∀b,b<8→(arr (arr (0:Int) []) [(arr 0 [0,0,0,0,0,0,0,0]),(arr 0 [0,0,0,0,0,0,0,0]),(arr 0 [0,0,0,0,0,0,0,0]),(arr 0 [0,0,0,0,0,0,0,0]),(arr 0 [0,0,0,0,0,0,0,0]),(arr 0 [0,0,0,0,0,0,0,0]),(arr 0 [0,0,0,0,0,0,0,0]),(arr 0 [0,0,0,0,0,0,0,0])]) a b=0:=by decide
theorem VB{I:dt}(H:yJ I):Wp (wX I.je I.ql) fun r=>∃o,r = .inl o∧xu I 0 0 o:=by
 have hl:=H.hl;unfold wX;refine ak (fun h=>by have:=of_decide_eq_true h;omega) (fun _=>WN (cR ?_));refine eI (fun j s=>s=I.ql.take j) (gx (by omega)) rfl ?_ ?_
 ·intro j s hj hs
  have Ba:s.length≤3:=by rw[hs,List.length_take];omega
  refine bJ hj (fun h h1 h2=>?_);have ho:=H.hd h h2;have al:=ho.al;refine aA (WU ho) (ak (fun h=>by cases h) (fun _=>au (aQ (SK (by dsimp only;omega))) (fun v hv=>ak (fun e=>?_) (fun _=>?_))))
  ·obtain⟨g,g1,g2⟩:=hv e
   dsimp only at g1;rw[hs]at g1;obtain⟨i,hi,rfl⟩:=List.getElem_of_mem g1;rw[List.length_take]at hi;rw[List.getElem_take]at g2;obtain⟨Nl,rfl⟩:=List.getElem?_eq_some_iff.1 h1;exact absurd g2 ((List.pairwise_iff_getElem.1 H.hn) i j (by omega) Nl (by omega))
  ·refine cw (fun j s=>s=h.gY.take j) (gx (by omega)) rfl ?_ ?_
   ·intro q t hq ht
    have Nr:t.length≤2:=by rw[ht,List.length_take];omega
    refine bJ hq (fun a a1 a2=>?_);have aal:=(ho.ar a a2).al;exact aA (Cg (by omega)) (aV (aK (xt (by omega) (by decide)) (ax (ah (cpI ht a1)))))
   ·intro t ht
    rw[Int.toNat_natCast,List.take_length]at ht;subst ht;exact cR (aV (aK (xt (by omega) (by decide)) (ax (ah (cpI hs h1)))))
 ·intro s hs
  rw[Int.toNat_natCast,List.take_length]at hs;subst hs;refine aI (ah ⟨_,rfl,rfl,rfl,fun a b ha hb=>?_,fun a ha=>?_,fun a ha=>?_,by simp,by simp⟩)
  ·have:=z88 a ha b hb
   exact⟨by dsimp only;rw[this];decide,by dsimp only;rw[this];decide⟩
  ·have:=z8 a ha
   exact⟨by dsimp only;rw[this];decide,by dsimp only;rw[this];decide⟩
  ·have:=z8 a ha
   exact⟨by dsimp only;rw[this];decide,by dsimp only;rw[this];decide⟩
theorem Ve{I:dt}(H:yJ I):uu I=some I:=by
 have hl:=H.hl;unfold uu;refine ca (cw (fun j s=>s=I.ql.take j) (gx (by omega)) rfl ?_ ?_)
 ·intro j s hj hs
  have Ba:s.length≤3:=by rw[hs,List.length_take];omega
  refine bJ hj (fun h h1 h2=>?_);have ho:=H.hd h h2;have al:=ho.al;refine cw (fun j s=>s=h.gY.take j) (gx (by omega)) rfl ?_ ?_
  ·intro q t hq ht
   have Nr:t.length≤2:=by rw[ht,List.length_take];omega
   refine bJ hq (fun a a1 a2=>?_);have aal:=(ho.ar a a2).al;exact aK (Ed (by omega) (by decide)) (cR (aV (aK (xt (by omega) (by decide)) (ax (ah (cpI ht a1))))))
  ·intro t ht
   rw[Int.toNat_natCast,List.take_length]at ht;subst ht;exact cR (aV (aK (xt (by omega) (by decide)) (ax (ah (cpI hs h1)))))
 ·intro s hs
  rw[Int.toNat_natCast,List.take_length]at hs;subst hs;exact cR (ah rfl)
structure Zm(t:bU):Prop where
 f0:0≤t.cu.gS
 f1:t.cu.gS≤2
 t0:0≤t.cu.uS
 t1:t.cu.uS≤2
 n0:0≤t.cu.gN
 n1:t.cu.gN≤3
 c0:0≤t.kV
 c1:t.kV≤1
 ar:ZD t.qO
theorem Ci{α:Type}{P:α→Prop}{l:List α}{i:Nat}{v:α}(h:∀x∈l,P x)(hv:P v):∀x∈l.set i v,P x:=fun x hx=>by
 rcases List.mem_or_eq_of_mem_set hx with h' | rfl
 ·exact h x h'
 ·exact hv
theorem uy{α:Type}{P:α→Prop}{l:List α}{v:α}(h:∀x∈l,P x)(hv:P v):∀x∈l++[v],P x:=fun x hx=>by
 rcases List.mem_append.1 hx with h' | h'
 ·exact h x h'
 ·simp at h';subst h';exact hv
theorem rR{α:Type}{l:List α}{v:α}:(l++[v]).length=l.length+1:=by simp
theorem UO(a b:bU):Gw (kS a b):=by
 unfold kS;exact aA (qz _ _) (aA (qz _ _) (aA (qz _ _) (aA (qz _ _) (aA (qz _ _) (aV (aA (BN (by simp)) (ah trivial)))))))
theorem Xl{P:bU→Prop}{l:List bU}(hl:l.length≤12)(hp:∀x∈l,P x):Wp (et l) fun r=>r.length=l.length∧∀x∈r,P x:=by
 unfold et;refine au (Ml _) (fun v _=>au (P:=fun r=>r.length=l.length∧∀x∈r,P x) (aQ ?_) (fun r h=>aI (ah h)));unfold gn;refine KM (ak (fun _=>au (P:=fun r=>r.length=l.length∧∀x∈r,P x) (aQ ?_) (fun r h=>aI (ah h))) (fun h=>?_))
 ·unfold fA
  refine ly (fun s=>s.1.length=l.length∧(∀x∈s.1,P x)∧1≤s.2∧s.2≤100) (fun s=>(100-s.2).toNat) ⟨rfl,hp,by dsimp only;decide,by dsimp only;decide⟩ (by dsimp only;decide) ?_;rintro⟨s,i⟩ ⟨s1,sp,i1,i2⟩;dsimp only at s1 sp i1 i2 ⊢;refine ak (fun hb=>?_) (fun _=>ah (aI (ah ⟨s1,sp⟩)));have hi:i<(l.length:Int):=by simpa using hb
  refine ly (fun t=>t.1.length=l.length∧(∀x∈t.1,P x)∧0≤t.2∧t.2≤i) (fun t=>t.2.toNat) ⟨s1,sp,by dsimp only;omega,by dsimp only;omega⟩ (by dsimp only;omega) ?_;rintro⟨t,j⟩ ⟨t1,tp,j0,j1⟩;dsimp only at t1 tp j0 j1 ⊢;rw[wrap_i64 (n:=j-1) (by omega) (by omega)];refine au (P:=fun _=>True) (ia (fun h=>Bt j0 (by omega) (fun _ _ _=>trivial)) (fun _=>trivial)) (fun a _=>?_)
  refine au (P:=fun _=>True) (ia (fun h=>Bt (by have:(0:Int)<j:=of_decide_eq_true h;omega) (by omega) (fun _ _ _=>trivial)) (fun _=>trivial)) (fun b _=>?_)
  refine au (P:=fun _=>True) (ia (fun _=>UO _ _) (fun _=>trivial)) (fun c _=>?_);refine ak (fun h=>?_) (fun _=>ah (ax (ah ⟨⟨t1,tp,?_,?_⟩,?_⟩)))
  ·have hj:0<j:=by rw[Bool.and_eq_true]at h;exact of_decide_eq_true h.1
   refine fI (by omega) (by omega) (fun x _ xm=>fI j0 (by omega) (fun y _ ym=>aV (fI (by omega) (by rw[List.length_set];omega) (fun _ _ _=>aV (ax (ah ⟨⟨by dsimp only;rw[List.length_set,List.length_set];exact t1,Ci (Ci tp (tp x xm)) (tp y ym),by dsimp only;omega,by dsimp only;omega⟩,by dsimp only;omega⟩))))))
  all_goals (dsimp only;rw[wrap_i64 (by omega) (by omega)];omega)
 ·rw[wrap_i64 (by omega) (by omega)]at h
  simp at h;omega
theorem acK{o:aj}(hl:o.df.length≤3)(hd:∀h∈o.df,Zy h):Wp (kR o) fun r=>r.length≤6∧∀t∈r,Zm t:=by
 unfold kR;refine cw (fun j s=>s.length≤2*j∧∀t∈s,Zm t) (gx (by omega)) ⟨by simp,by simp⟩ ?_ ?_
 ·rintro j s hj ⟨s1,s2⟩
  refine bJ hj (fun h h1 h2=>?_);have ho:=hd h h2;have al:=ho.al;refine cw (fun q s=>s.length≤2*j+q∧∀t∈s,Zm t) (gx (by omega)) ⟨by omega,s2⟩ ?_ ?_
  ·rintro q t hq ⟨t1,t2⟩
   refine bJ hq (fun a a1 a2=>?_);have ao:=ho.ar a a2;have aal:=ao.al;refine aA (Cg (by omega)) (aV (aK (xt (by omega) (by decide)) (ax (ah ⟨by rw[rR];omega,uy t2 ?_⟩))));exact⟨ho.f0,ho.f1,ho.t0,ho.t1,ho.n0,ho.n1,by dsimp only;omega,by dsimp only;omega,ao⟩
  ·rintro t ⟨t1,t2⟩
   rw[Int.toNat_natCast]at t1;exact ax (ah ⟨by omega,t2⟩)
 ·rintro s ⟨s1,s2⟩
  rw[Int.toNat_natCast]at s1;exact au (aQ (Xl (P:=Zm) (by omega) s2)) (fun r hr=>cR (aI (ah ⟨by omega,hr.2⟩)))
theorem afp{s:bS}(hl:s.aW.length≤1000)(h:∀c∈s.aW,AF c):tA s=some s.aW:=by
 unfold tA;refine ca (aK (by unfold iJ;omega) (aV (cw (fun j t=>t=s.aW.take j) (gx (by omega)) rfl ?_ ?_)))
 ·intro j t hj ht
  have Nr:t.length≤1000:=by rw[ht,List.length_take];omega
  exact bJ hj (fun c c1 c2=>aA (HA (h c c2)) (aV (aK (xt (by omega) (by decide)) (ax (ah (cpI ht c1))))))
 ·intro t ht
  rw[Int.toNat_natCast,List.take_length]at ht;exact cR (ah ht)
theorem SG{a b:aH}:yD (cM a) (cM b)=true↔a=b:=by
 obtain⟨a1,a2,a3,a4⟩:=a;obtain⟨b1,b2,b3,b4⟩:=b;simp[cM,yD,Wh]
theorem Hl{k:aH}:∀(xs:List (aH×Bool)) (i:Nat) {q:Nat×Bool},AM cM k xs i=some q→∃j v,q=(i+j,v)∧xs[j]? = some (k,v)
 |[],_,_,h=>by cases h
 |p::l,i,q,h=>by
  unfold AM at h
  split at h
  ·rename_i hh
   obtain rfl:=Option.some.inj h;exact⟨0,p.2,rfl,by rw[SG.1 hh];rfl⟩
  ·obtain⟨j,v,rfl,h2⟩:=Hl l (i+1) h
   exact⟨j+1,v,by rw[Nat.add_assoc,Nat.add_comm 1],by simpa using h2⟩
theorem Hm{k:aH}:∀(xs:List (aH×Bool)) (i:Nat),AM cM k xs i=none→∀p∈xs,p.1≠k
 |[],_,_,p,hp=>by cases hp
 |p::l,i,h,q,hq=>by
  unfold AM at h
  split at h
  ·cases h
  ·rename_i hh
   rcases List.mem_cons.1 hq with rfl|hq
   ·intro e;exact hh (SG.2 e.symm)
   ·exact Hm l (i+1) h q hq
theorem abO{a b:aH}(ha:KB a)(hb:KB b)(h:pO a=pO b):a=b:=by
 obtain⟨a1,a2,a3,a4⟩:=a;obtain⟨b1,b2,b3,b4⟩:=b;obtain⟨q1,q2,q3,q4,q5,q6⟩:=ha;obtain⟨r1,r2,r3,r4,r5,r6⟩:=hb;unfold pO at h;dsimp only at *;obtain rfl:a1=b1:=by omega
 obtain rfl:a2=b2:=by omega
 obtain rfl:a3=b3:=by omega
 obtain rfl:a4=b4:=by omega
 rfl
structure VD(l:List aq)(xs:List (aH×Bool)):Prop where
 cl:∀p∈xs,∃c∈l,p.1=c.cG
 cn:(xs.map fun p=>pO p.1).Nodup
theorem VD.put{l:List aq}{xs:List (aH×Bool)}{k:aH}(hl:∀c∈l,AF c)(h:VD l xs)(hk:∃c∈l,k=c.cG):VD l (Hk cM xs k true):=by
 have kb:∀k,(∃c∈l,k=c.cG)→KB k:=fun k ⟨c,hc,e⟩=>e ▸ (hl c hc).kb
 unfold Hk
 split
 ·rename_i i v hm
  obtain⟨j,v',e,hj⟩:=Hl xs 0 hm;rw[Nat.zero_add]at e;obtain⟨rfl,rfl⟩:=Prod.mk.inj e;refine⟨fun p hp=>?_,?_⟩
  ·rcases List.mem_or_eq_of_mem_set hp with hp|rfl
   ·exact h.cl p hp
   ·exact hk
  ·rw[List.map_set]
   obtain⟨Nl,e'⟩:=List.getElem?_eq_some_iff.1 hj
   have:(xs.map fun p=>pO p.1).set i (pO k)=xs.map fun p=>pO p.1:=by
    apply List.ext_getElem?;intro q;rw[List.getElem?_set]
    split
    ·rename_i hq;subst hq
     rw[List.getElem?_map,hj];simp[Nl]
    ·rfl
   have h1:=h.cn;rw[←this]at h1;exact h1
 ·rename_i hm
  have hn:=Hm xs 0 hm;refine⟨fun p hp=>?_,?_⟩
  ·rcases List.mem_append.1 hp with hp|hp
   ·exact h.cl p hp
   ·simp at hp;subst hp;exact hk
  ·rw[List.map_append,List.nodup_append]
   refine⟨h.cn,by simp,fun a ha b hb=>?_⟩;simp at hb;subst hb;obtain⟨p,hp,rfl⟩:=List.mem_map.1 ha;exact fun e=>hn p hp (abO (kb _ (h.cl p hp)) (kb _ hk) e)
theorem BD:∀(l:List Int),Sq l=0→∀a∈l,a=0
 |[],_,a,h=>by cases h
 |x::l,h,a,ha=>by
  unfold Sq at h
  split at h
  ·rename_i hx;exact absurd h hx
  ·rename_i hx
   rcases List.mem_cons.1 ha with rfl|ha
   ·simpa using hx
   ·exact BD l h a ha
theorem acg{a b:Int}(h:(if a<b then(-1:Int)else if b<a then 1 else 0)=0):a=b:=by
 split at h
 ·cases h
 ·split at h
  ·cases h
  ·omega
theorem OS(x y:aH):Wp (ld x y) fun v=>v=0→x=y:=by
 unfold ld;rw[Tj,qz,qz,qz];refine aA rfl (aA rfl (aA rfl (aA rfl (aV (aA (BN (by simp)) (ah (fun h=>?_)))))));have e1:=acg (BD _ h _ (List.mem_cons_self));have e2:=acg (BD _ h _ (List.mem_cons_of_mem _ (List.mem_cons_self)));have e3:=acg (BD _ h _ (List.mem_cons_of_mem _ (List.mem_cons_of_mem _ (List.mem_cons_self))));have e4:=acg (BD _ h _ (List.mem_cons_of_mem _ (List.mem_cons_of_mem _ (List.mem_cons_of_mem _ (List.mem_cons_self)))));obtain⟨a1,a2,a3,a4⟩:=x;obtain⟨b1,b2,b3,b4⟩:=y;dsimp only at e1 e2 e3 e4;subst e1 e2 e3 e4
 rfl
theorem abY{s:bS}{k:aH}(hl:s.aW.length≤1000):Wp (rY s k) fun r=>r.2=true→0≤r.1∧∃c,s.aW[r.1.toNat]? = some c∧c.cG=k∧r.1<(s.aW.length:Int):=by
 have f1:∀c,Wp (qg c k) fun v=>v=0→c.cG=k:=fun c=>au (OS _ _) (fun v h=>ah h)
 unfold rY ed;refine au (P:=fun r=>r.2=true→0≤r.1∧∃c,s.aW[r.1.toNat]? = some c∧c.cG=k∧r.1<(s.aW.length:Int)) (aQ ?_) (fun r h=>ah h);refine ly (fun t=>0≤t.1∧t.1≤t.2∧t.2≤(s.aW.length:Int)) (fun t=>(t.2-t.1).toNat) ⟨Int.le_refl _,by dsimp only;omega,Int.le_refl _⟩ (by dsimp only;omega) ?_;rintro⟨i,j⟩ ⟨i0,ij,jn⟩;dsimp only at i0 ij jn ⊢;refine ak (fun hb=>?_) (fun hb=>ah ?_)
 ·have Dn:i<j:=by simpa using hb
  rw[ET i0 Dn (by omega)];refine fI (by omega) (by omega) (fun v _ _=>au (f1 _) (fun q _=>ak (fun _=>ax (ah ?_)) (fun _=>ax (ah ?_))))
  ·rw[wrap_i64 (by omega) (by omega)]
   exact⟨⟨by dsimp only;omega,by dsimp only;omega,by dsimp only;omega⟩,by dsimp only;omega⟩
  ·exact⟨⟨by dsimp only;omega,by dsimp only;omega,by dsimp only;omega⟩,by dsimp only;omega⟩
 ·by_cases hi:i<(s.aW.length:Int)
  ·obtain⟨c,c1,c2,_⟩:=mc (xs:=s.aW) i0 hi
   refine gh (decide_eq_true hi) c1 ?_;refine au (P:=fun v=>v=0→c.cG=k) (ia (fun _=>f1 c) (fun h=>absurd hi (of_decide_eq_false h))) (fun v hv=>aI (ah (fun h=>?_)));dsimp only at h ⊢;rw[Bool.and_eq_true]at h;exact⟨i0,c,c2,hv (by simpa using h.2),hi⟩
  ·refine au (P:=fun _=>True) (ia (fun h=>absurd (of_decide_eq_true h) hi) (fun _=>trivial)) (fun v _=>au (P:=fun _=>True) (ia (fun h=>absurd (of_decide_eq_true h) hi) (fun _=>trivial)) (fun v _=>aI (ah (fun h=>?_))))
   dsimp only at h;rw[Bool.and_eq_true]at h;exact absurd (of_decide_eq_true h.1) hi
theorem afl{s:bS}{k:aH}(hl:s.aW.length≤1000)(h:∀c∈s.aW,AF c):Wp (tw s k) fun r=>0≤r.1.gD∧r.1.gD≤5∧(r.2=true→∃c∈s.aW,k=c.cG):=by
 unfold tw;refine au (abY hl) (fun r hr=>ak (fun _=>ah ⟨show(0:Int)≤0 by decide,show(0:Int)≤5 by decide,fun h=>by cases h⟩) (fun hf=>?_));obtain⟨r0,c,c1,c2,c3⟩:=hr (by simpa using hf);refine fI r0 c3 (fun d d1 d2=>?_);rw[c1]at d1;obtain rfl:=Option.some.inj d1;exact aA (HA (h c d2)) (ah ⟨(h c d2).d0,(h c d2).d1,fun _=>⟨c,d2,c2.symm⟩⟩)
section
variable {I:dt} {cs cd:Int} {o:aj}
theorem Dx{a b c d:Int}(H:yJ I)(h:xu I cs cd o):Wp (fE a b c d o) fun r=>0≤r.1.gD∧r.1.gD≤5∧xu I cs cd r.2.2:=by
 have hl:=H.cl;have hch:=h.ch;have hk:∀c∈o.gf.aW,AF c:=by rw[hch];exact H.ch
 unfold fE;refine au (afl (by rw[hch];omega) hk) ?_;rintro⟨c,f⟩ ⟨d0,d1,hf⟩;dsimp only at d0 d1 hf ⊢;refine cS (ak (fun e=>aV (aV (ax (aI (ah ⟨d0,d1,?_⟩))))) (fun _=>ax (aI (ah ⟨d0,d1,h⟩))));have:=VD.put H.ch ⟨h.cl,h.cn⟩ (by rw[hch]at hf;exact hf e);exact⟨h.ch,h.hs,h.se,h.ti,h.di,this.cl,this.cn⟩
theorem RB{k:aH}(H:yJ I)(h:xu I cs cd o):Wp (jz k o) (xu I cs cd):=by
 unfold jz;exact au (aQ (Dx H h)) (fun r hr=>aI (ah hr.2.2))
theorem xu.mono{cs' cd':Int}(h:xu I cs cd o)(h1:cs≤cs')(h2:cd≤cd'):xu I cs' cd' o :=
 ⟨h.ch,h.hs,fun a b ha hb=>⟨(h.se a b ha hb).1,Int.le_trans (h.se a b ha hb).2 h1⟩,fun a ha=>⟨(h.ti a ha).1,Int.le_trans (h.ti a ha).2 h1⟩,fun a ha=>⟨(h.di a ha).1,Int.le_trans (h.di a ha).2 h2⟩,h.cl,h.cn⟩
end
theorem Ez{α:Type}{f:Nat→α}{i:Nat}{v:α}:xJ f i v i=v:=by unfold xJ;rw[if_pos rfl]
theorem CR{α:Type}{f:Nat→α}{i j:Nat}{v:α}(h:j≠i):xJ f i v j=f j:=by unfold xJ;rw[if_neg h]
section
variable {I:dt} {cs cd:Int} {o:aj}
theorem xu.hl(H:yJ I)(h:xu I cs cd o):o.df.length≤3:=by rw[h.hs];exact H.hl
theorem ahh{x y:Nat}{v:Int}(h:xu I cs cd o)(hx:x<8)(hv:v=o.cY x y+1):xu I (cs+1) cd { o with cY:=xJ o.cY x (xJ (o.cY x) y v) }:=by
 have hm:=h.mono (cs':=cs+1) (cd':=cd) (by omega) (by omega);refine⟨h.ch,h.hs,fun a b ha hb=>?_,hm.ti,hm.di,h.cl,h.cn⟩;dsimp only
 by_cases ea:a=x
 ·subst ea
  rw[Ez]
  by_cases eb:b=y
  ·subst eb
   rw[Ez,hv];have:=h.se a b ha hb;omega
  ·rw[CR eb];exact hm.se a b ha hb
 ·rw[CR ea];exact hm.se a b ha hb
theorem ahg{x:Nat}{v:Int}(h:xu I cs cd o)(hx:x<8)(hv:v=o.eG x+1):xu I (cs+1) cd { o with eG:=xJ o.eG x v }:=by
 have hm:=h.mono (cs':=cs+1) (cd':=cd) (by omega) (by omega);refine⟨h.ch,h.hs,hm.se,fun a ha=>?_,hm.di,h.cl,h.cn⟩;dsimp only
 by_cases ea:a=x
 ·subst ea
  rw[Ez,hv];have:=h.ti a ha;omega
 ·rw[CR ea];exact hm.ti a ha
theorem ahi{x:Nat}{v d:Int}(h:xu I cs cd o)(hx:x<8)(hd:0≤d)(hv:v=o.dh x+d):xu I cs (cd+d) { o with dh:=xJ o.dh x v }:=by
 have hm:=h.mono (cs':=cs) (cd':=cd+d) (by omega) (by omega);refine⟨h.ch,h.hs,hm.se,hm.ti,fun a ha=>?_,h.cl,h.cn⟩;dsimp only
 by_cases ea:a=x
 ·subst ea
  rw[Ez,hv];have:=h.di a ha;omega
 ·rw[CR ea];exact hm.di a ha
structure SR(I:dt)(cs cd:Int)(n:Int)(h:Int)(ag:List Int)(r:Int×List bZ×aj):Prop where
 n:r.1=n
 l:r.2.1.length≤2
 ar:∀x∈r.2.1,x.bM=h∧x.bR=ag
 o:xu I (cs+1) cd r.2.2
theorem acC{x1 x2 x3 x5 x6:Int}{x4:List Int}(H:yJ I)(h:xu I cs cd o)(hc:cs≤2147483647)(a0:0≤x1)(a1:x1<8)(b0:0≤x2)(b1:x2<8)(al:x4.length≤1000):Wp (kQ x1 x2 x3 x4 x5 x6 o) (SR I cs cd (o.cY x1.toNat x2.toNat) x3 x4):=by
 have hl:=h.hl H;have hse:=h.se x1.toNat x2.toNat (by omega) (by omega);have i1:qv 8 x1:=⟨a0,by omega⟩;have i2:qv 8 x2:=⟨b0,by omega⟩;unfold kQ;refine aA (Ap a0 a1) (gh rfl (Ap b0 b1) (ak (fun h=>by cases h) (fun _=>?_)));refine aK i1 (aK i2 (iz (qj (aK i1 (aK i2 (iz (qj (aK i1 (aK i2 (iz (qj (qj ?_))))))))))));rw[wrap_i64 (n:=o.cY x1.toNat x2.toNat+1) (by omega) (by omega)];have h1:=ahh (x:=x1.toNat) (y:=x2.toNat) h (by omega) rfl;refine au (aQ (SK (by dsimp only;omega))) (fun v _=>ak (fun _=>aI (ah ⟨rfl,by simp,by simp,h1⟩)) (fun _=>?_));refine au (aQ (Dx H h1)) ?_;rintro⟨c,f,o1⟩ ⟨_,_,TK⟩;refine ak (fun _=>aI (ah ⟨rfl,by simp,by simp,TK⟩)) (fun _=>cS ?_);refine au (aQ (Dx H TK)) ?_;rintro⟨c2,f2,o2⟩ ⟨_,_,ho2⟩;have K2:∀(ar:List bZ) (q:aj),ar.length≤2→(∀x∈ar,x.bM=x3∧x.bR=x4)→xu I (cs+1) cd q→Wp (lC x1 x2 o (ar,q.cY,q.eG,q.dh,q.gf.aW,q.df,q.bh)) (SR I cs cd (o.cY x1.toNat x2.toNat) x3 x4):=fun ar q q1 q2 q3=>aI (ah ⟨rfl,q1,q2,q3⟩)
 have K1:∀(t:Int),Wp (lD x1 x2 x3 x4 o (t,o2.cY,o2.eG,o2.dh,o2.gf.aW,o2.df,o2.bh)) (SR I cs cd (o.cY x1.toNat x2.toNat) x3 x4):=by
  intro t;refine aA (Cg al) (aV (aK (Ed (by simp) (by decide)) (cS ?_)));refine au (P:=fun r=>xu I (cs+1) cd r.2.2) (aQ ((Dx H ho2).imp (fun r hr=>hr.2.2))) ?_;rintro⟨c3,f3,o3⟩ ho3;refine ak (fun _=>aA (Cg al) (aV (aK (xt (by simp) (by decide)) (ax (K2 _ o3 (by simp) ?_ ho3))))) (fun _=>ax (K2 _ o3 (by simp) ?_ ho3))
  ·intro x hx
   simp at hx;rcases hx with rfl|rfl <;> exact⟨rfl,rfl⟩
  ·intro x hx
   simp at hx;subst hx;exact⟨rfl,rfl⟩
 exact ak (fun _=>ax (K1 _)) (fun _=>ax (K1 _))
theorem Zn{x1 x2:Int}(H:yJ I)(h:xu I cs cd o)(hc:cs≤2147483647)(a0:0≤x1)(a1:x1<8)(hx:I6 x2):Wp (kq x1 x2 o) fun r=>r.1=o.eG x1.toNat∧I6 r.2.1∧xu I (cs+1) cd r.2.2:=by
 have hti:=h.ti x1.toNat (by omega);have i1:qv 8 x1:=⟨a0,by omega⟩;unfold kq;refine aA (Ap a0 a1) (ak (fun h=>by cases h) (fun _=>?_));refine aK i1 (iz (aK i1 (iz (aK i1 (iz (qj ?_))))));rw[wrap_i64 (n:=o.eG x1.toNat+1) (by omega) (by omega)];have h1:=ahg (x:=x1.toNat) h (by omega) rfl;refine cS (au (aQ (Dx H h1)) ?_);rintro⟨c,f,o1⟩ ⟨_,_,TK⟩;exact ak (fun _=>ax (aI (ah ⟨rfl,Ac _,TK⟩))) (fun _=>ax (aI (ah ⟨rfl,hx,TK⟩)))
theorem acI{s:bS}(hl:s.aW.length≤1000):Wp (rZ s) fun r=>r.length=s.aW.length∧∀k∈r,∃c∈s.aW,k=c.cG:=by
 unfold rZ;refine aK (by unfold iJ;omega) (aV (cw (fun j t=>t.length=j∧∀k∈t,∃c∈s.aW,k=c.cG) (gx (by omega)) ⟨rfl,by simp⟩ ?_ ?_))
 ·rintro j t hj ⟨t1,t2⟩
  exact bJ hj (fun c c1 c2=>aV (aK (xt (by omega) (by decide)) (ax (ah ⟨by rw[rR];omega,uy t2 ⟨c,c2,rfl⟩⟩))))
 ·rintro t ⟨t1,t2⟩
  rw[Int.toNat_natCast]at t1;exact cR (ah ⟨t1,t2⟩)
theorem Ht{x1 x2:Int}(H:yJ I)(h:xu I cs cd o)(a0:0≤x1)(a1:x1<8):Wp (gX x1 x2 o) fun r=>r.length≤10∧∀k∈r,∃c∈I.je.aW,k=c.cG:=by
 have hl:=H.cl;have hch:=h.ch;have i1:qv 8 x1:=⟨a0,by omega⟩;unfold gX;refine au (acI (by rw[hch];omega)) ?_;rintro ks ⟨k1,k2⟩;rw[hch]at k1 k2;refine cw (fun j t=>t.length≤j∧∀k∈t,∃c∈I.je.aW,k=c.cG) (gx (by omega)) ⟨by simp,by simp⟩ ?_ ?_
 ·rintro j t hj ⟨t1,t2⟩
  refine bJ hj (fun c c1 c2=>aK (fun _=>i1) (iz (aK (fun _=>i1) (iz (ak (fun _=>aV (aK (xt (by omega) (by decide)) (ax (ah ⟨by rw[rR];omega,uy t2 (k2 c c2)⟩)))) (fun _=>ax (ah ⟨by omega,t2⟩)))))))
 ·rintro t ⟨t1,t2⟩
  rw[Int.toNat_natCast]at t1;exact cR (aI (ah ⟨by omega,t2⟩))
theorem acP{x1 x2:Int}(H:yJ I)(h:xu I cs cd o)(a0:0≤x1)(a1:x1<8):Wp (kU x1 x2 o) fun r=>r.1=o.dh x1.toNat∧r.2.length≤10:=by
 have i1:qv 8 x1:=⟨a0,by omega⟩;unfold kU;refine aA (Ap a0 a1) (ak (fun h=>by cases h) (fun _=>au (aQ (Ht H h a0 a1)) ?_));rintro ks ⟨k1,_⟩;refine cw (fun j t=>t.length=j) (gx (by omega)) rfl ?_ ?_
 ·rintro j t hj ht
  exact bJ hj (fun c c1 c2=>aV (aK (xt (by omega) (by decide)) (ax (ah (by rw[rR];omega)))))
 ·intro t ht
  rw[Int.toNat_natCast]at ht;exact aK i1 (iz (cR (aI (ah ⟨rfl,by dsimp only;omega⟩))))
theorem Pf{x1 x2:Int}(H:yJ I)(h:xu I cs cd o)(hc:cd≤2147483647)(a0:0≤x1)(a1:x1<8)(d0:0≤x2)(d1:x2≤1000000000000):Wp (iZ x1 x2 o) (xu I cs (cd+x2)):=by
 have hdi:=h.di x1.toNat (by omega);have i1:qv 8 x1:=⟨a0,by omega⟩;unfold iZ;refine aA (Ap a0 a1) (ak (fun _=>aI (ah (h.mono (Int.le_refl _) (by omega)))) (fun _=>?_));refine au (aQ (Ht H h a0 a1)) ?_;rintro ks ⟨k1,k2⟩;refine cw (fun j t=>VD I.je.aW t) (gx (by omega)) ⟨h.cl,h.cn⟩ ?_ ?_
 ·rintro j t hj ht
  exact bJ hj (fun c c1 c2=>aV (aV (ax (ah (VD.put H.ch ht (k2 c c2))))))
 ·intro t ht
  refine aK i1 (iz (aK i1 (iz (aK i1 (iz (qj (aI (ah ?_))))))));rw[wrap_i64 (n:=9223372036854775807-o.dh x1.toNat) (by omega) (by omega),if_neg (by omega),wrap_i64 (by omega) (by omega)];have h2:=ahi (x:=x1.toNat) (d:=x2) h (by omega) d0 rfl;exact⟨h2.ch,h2.hs,h2.se,h2.ti,h2.di,ht.cl,ht.cn⟩
end
theorem Vv{l:List cq}(hl:l.length≤1000000000):Wp (yC l) fun r=>0≤r∧r≤l.length:=by
 unfold yC;refine cw (fun j s=>0≤s∧s≤(j:Int)) (gx (by omega)) ⟨Int.le_refl _,by decide⟩ ?_ ?_
 ·rintro j s hj ⟨s0,s1⟩
  refine bJ hj (fun e _ _=>ak (fun _=>ax (ah ?_)) (fun _=>ax (ah ⟨s0,by omega⟩)));rw[wrap_i64 (by omega) (by omega)];exact⟨by omega,by omega⟩
 ·rintro s ⟨s0,s1⟩
  exact ah ⟨s0,by rw[Int.toNat_natCast]at s1;exact s1⟩
end Go.Proofs.YtpeihknododmlaaGreatDoor
