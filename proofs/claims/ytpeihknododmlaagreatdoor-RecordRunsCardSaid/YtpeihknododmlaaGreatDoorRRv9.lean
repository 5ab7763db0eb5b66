/- Part 9 of what the claim leans on. -/
import Derived.Test.YtpeihknododmlaaGreatDoorRRv8
set_option maxRecDepth 100000
set_option maxHeartbeats 4000000
set_option linter.unusedVariables false
set_option linter.unusedSimpArgs false
namespace Go.Proofs.YtpeihknododmlaaGreatDoor
open Go.Proofs.Tryz
open Go.RowKit
attribute [local irreducible] ik du bx iM oE dL eN iJ
noncomputable def kR(o0:aj):Option (List bU) :=
 fL ([]:List bU) 15 [100000,100001,100002] [13,14] [100000,100001,100002] (fun _ t=>(3,.row 10001)::t) (fun s t=>(10001,some (.R 253 7 uH s))::t) [.r 3 10003 253 7] [(10001,10003)] m64 (o0.df.length:Int) (fun k1 s3=>
  Bi (idx o0.df (k1:Int)) fun v7=>
  fL s3 22 [100000,100001,100002] [5,13,14,15,20,21] [5,100000,100001,100002] (fun _ t=>(3,.row 10002)::t) (fun s t=>(10002,some (.R 253 7 uH s))::t) [] [(10002,10001)] m64 (v7.gY.length:Int) (fun k8 wH=>
   Bi (idx v7.gY (k8:Int)) fun v12=>
   Bi (gV v12) fun qm=>
   eT 34 (bA 7 uH) [(bU.mk v7.cu (k8:Int) qm)] fun qs=>
   Ck (dL 72 (wH.length+List.length qs))<|
   nX [] [(10002,35)] (some (wH++qs))) fun wH=>
  nX [] [(10001,10002)] (some wH)) fun s3=>
 Bi (cl 39 [(100000,10001)] (et s3)) fun v5=>
 wk [.z 10001]<|rX [] (some v5)
instance IH{o0}:MA (kR o0) prog 92 (fun _=>0) fun r=>⟨[.ref 100000 0],[(100000,some (.bC 234 (aj.b0 o0 (.row 100001) (.row 100002)))),(100001,some (.R 130 4 da o0.df)),(100002,some (.mp (pN cM DV.bool o0.bh)))],.L 7 uH r,[(100000,some (.bC 234 (aj.b0 o0 (.row 100001) (.row 100002)))),(100001,some (.R 130 4 da o0.df)),(100002,some (.mp (pN cM DV.bool o0.bh)))],[]⟩:=⟨fun hM=>by unfold kR at hM;exact ab func92 ntmps92⟩
noncomputable def zF(x0:Int):Option Bool :=
 some ((((x0==1)||(x0==2))||(x0==3))||(x0==4))
instance adl{x0}:MC (zF x0) fun r=>bx prog 94 [.int .u8 x0] (.bool r):=⟨fun hM=>by unfold zF at hM;exact pb func94 ntmps94⟩
noncomputable def nP(x1:dt)(af6:Int)(aah:Int)(o2:aP)(o9:aj)(o1:List aq)(o4:List aL)(o5:List Bool)(o6:List Int)(o7:List aN)(o8:List AEv):Option ay :=
 Bi (uu x1) fun v2=>
 Bi (cl 19 [(100000,100009),(100001,100010),(100002,100011)] (kR o9)) fun v4=>
 wk [.c 100000 46002 4 123 7]<|
 Bi (tA x1.je) fun v6=>
 fL ([]:List aq) 29 [100000,100001,100002,100003,100004,100005,100006,100007,100008,100009,100010,100011] [0,4,27,28] [4,100001,100002,100003,100004,100005,100006,100007,100008,100009,100010,100011] i2 (fun s t=>(10001,some (.R 123 7 cW s))::(100000,some (.bC 145 (ay.b0 (ay.mk v2 [] v4 () () aah (aN.mk [] [] []) [] []) (.row 10001) (.ref 100009 0) (.ref 100002 0) (.row 100004) (.row 100005) (.row 100006) (.row 100007) (.row 100008))))::t) [] [(10001,46002)] m64 (v6.length:Int) (fun k7 s9=>
  Bi (idx v6 (k7:Int)) fun v11=>
  Bi (zF v11.cG.bw) fun mU=>
  Bi (gb mU (0) (tB v11 x1.fx)) fun qs=>
  If (mU&&(qs==0)) (
   eT 50 (bA 7 cW) [v11] fun pF=>
   Ck (dL 72 (s9.length+List.length pF))<|
   nX [] [(10001,51)] (some (s9++pF)))<|
  nX [] [] (some s9)) fun s9=>
 rX [(50000,10001)] (some (ay.mk v2 s9 v4 () () aah (aN.mk o4 o5 o6) o7 o8))
instance MO{x1 af6 aah o2 o9 o1 o4 o5 o6 o7 o8}:MA (nP x1 af6 aah o2 o9 o1 o4 o5 o6 o7 o8) prog 48 (fun _=>2) fun r=>⟨[.ref 100000 0,.agg (vh x1),.ref 100009 0],[(100000,some (.bC 145 (ay.b1 (ay.mk (dt.mk (cH.mk (bj.mk ByteArray.empty [] [] []) ByteArray.empty (arr 0 []) (jv.mk [])) (bS.mk []) [] af6) [] [] () () aah (aN.mk [] [] []) [] []) (.val (.pointer none)) .bq .bq (.row 100001) .bq (.val (.pointer none)) (.ref 100002 0) (.row 100004) (.row 100005) (.row 100006) (.row 100007) (.row 100008)))),(100001,some (.R 123 7 cW o1)),(100002,some (.bC 240 [.row 100003])),(100003,some (.R 255 8 dm o2.aW)),(100004,some (.R 152 3 ff o4)),(100005,some (.R 4 1 DV.bool o5)),(100006,some (.R 3 1 (DV.int .i64) o6)),(100007,some (.R 143 3 fH o7)),(100008,some (.R 62 9 AEv.dv o8)),(100009,some (.bC 234 (aj.b0 o9 (.row 100010) (.row 100011)))),(100010,some (.R 130 4 da o9.df)),(100011,some (.mp (pN cM DV.bool o9.bh)))],.gW [],[(100000,some (.bC 145 (ay.b0 ({ r with ba:=(aN.mk [] [] []) }:ay) (.row 50000) (.ref 100009 0) (.ref 100002 0) (.row 100004) (.row 100005) (.row 100006) (.row 100007) (.row 100008)))),(50000,some (.R 123 7 cW r.mf)),(100001,some (.R 123 7 cW o1)),(100002,some (.bC 240 [.row 100003])),(100003,some (.R 255 8 dm o2.aW)),(100004,some (.R 152 3 ff o4)),(100005,some (.R 4 1 DV.bool o5)),(100006,some (.R 3 1 (DV.int .i64) o6)),(100007,some (.R 143 3 fH o7)),(100008,some (.R 62 9 AEv.dv o8)),(100009,some (.bC 234 (aj.b0 o9 (.row 100010) (.row 100011)))),(100010,some (.R 130 4 da o9.df)),(100011,some (.mp (pN cM DV.bool o9.bh)))],[50000]⟩:=⟨fun hM=>by unfold nP at hM;exact ae func48 ntmps48⟩
noncomputable def tP(x0:cH)(x1:Int):Option cm :=
 Bi (gb (!(decide (x1<0))) (0) (nA x0)) fun v2=>
 If ((decide (x1<0))||(decide (v2≤x1))) (
  some (cm.mk ByteArray.empty false))<|
 Bi (idx x0.qn.aR x1) fun v4=>
 some v4
instance Rj{x0 x1}:MC (tP x0 x1) fun r=>bx prog 97 [.jA (sQ x0),.I x1] (.agg (Qn r)):=⟨fun hM=>by unfold tP at hM;exact pb func97 ntmps97⟩
noncomputable def mN(x0:cH)(x1:Int):Option Bool :=
 Bi (tP x0 x1) fun v2=>
 some v2.uT
instance LN{x0 x1}:MC (mN x0 x1) fun r=>bx prog 52 [.jA (sQ x0),.I x1] (.bool r):=⟨fun hM=>by unfold mN at hM;exact pb func52 ntmps52⟩
noncomputable def zH(x0:dt):Option ((ay×aj×aP)⊕((Unit)⊕((Unit)⊕((Unit)⊕(Unit))))) :=
 If ((decide (x0.mL<0))||(decide (200<x0.mL))) (
  rX [] (some (.inr (.inr (.inl ())))))<|
 Bi (cl 25 [(50000,10001),(50001,10002),(50002,10003)] (wX x0.je x0.ql)) fun v2=>
 sm v2 (fun ud=>
  Bi (cl 31 [(50000,10004),(50001,10005)] (Ay)) fun v4=>
  wk [.c 33 50304 4 123 7,.c 33 50309 9 152 3,.c 33 50310 10 4 1,.c 33 50311 11 3 1,.c 33 50312 12 143 3,.c 33 50313 13 62 9]<|
  Bi (cl 37 [(100000,33),(100001,50304),(100002,10004),(100003,10005),(100004,50309),(100005,50310),(100006,50311),(100007,50312),(100008,50313),(100009,10001),(100010,10002),(100011,10003),(50000,10006)] (nP x0 0 0 v4 ud ([]:List aq) ([]:List aL) ([]:List Bool) ([]:List Int) ([]:List aN) ([]:List AEv))) fun v6=>
  Bi (fb x0.fx) fun v8=>
  fL (([]:List aL),([]:List Int)) 41 [] [1,6,40] [1] i2 (fun s t=>(33,some (.bC 145 (ay.b0 ({ v6 with ba:=(aN.mk [] [] []) }:ay) (.row 10007) (.ref 10001 0) (.ref 10004 0) (.row 10008) (.row 10009) (.row 10010) (.row 10011) (.row 10012))))::(10001,some (.bC 234 (aj.b0 ud (.row 10013) (.row 10014))))::(10004,some (.bC 240 [.row 10015]))::(10007,some (.R 123 7 cW v6.mf))::(10008,some (.R 152 3 ff s.1))::(10009,some (.R 4 1 DV.bool ([]:List Bool)))::(10010,some (.R 3 1 (DV.int .i64) s.2))::(10011,some (.R 143 3 fH ([]:List aN)))::(10012,some (.R 62 9 AEv.dv ([]:List AEv)))::(10013,some (.R 130 4 da ud.df))::(10014,some (.mp (pN cM DV.bool ud.bh)))::(10015,some (.R 255 8 dm v4.aW))::t) [] [(10007,10006),(10008,50309),(10009,50310),(10010,50311),(10011,50312),(10012,50313),(10013,10002),(10014,10003),(10015,10005)] m64 v8 (fun k9 Ji=>
   Bi (lp x0.fx (k9:Int)) fun uG=>
   eT 54 (bA 3 ff) [uG] fun v24=>
   Ck (dL 72 (Ji.1.length+List.length v24))<|
   eT 65 (bA 1 (DV.int .i64)) [1] fun yN=>
   Ck (dL 8 (Ji.2.length+List.length yN))<|
   nX [] [(10008,55),(10010,66)] (some ((Ji.1++v24),(Ji.2++yN)))) fun Ji=>
  Bi (nA x0.fx) fun qm=>
  fL ([]:List Bool) 74 [] [1,6,73] [1] i2 (fun s t=>(33,some (.bC 145 (ay.b0 ({ v6 with ba:=(aN.mk [] [] []) }:ay) (.row 10016) (.ref 10001 0) (.ref 10004 0) (.row 10017) (.row 10018) (.row 10019) (.row 10020) (.row 10021))))::(10001,some (.bC 234 (aj.b0 ud (.row 10022) (.row 10023))))::(10004,some (.bC 240 [.row 10024]))::(10016,some (.R 123 7 cW v6.mf))::(10017,some (.R 152 3 ff Ji.1))::(10018,some (.R 4 1 DV.bool s))::(10019,some (.R 3 1 (DV.int .i64) Ji.2))::(10020,some (.R 143 3 fH ([]:List aN)))::(10021,some (.R 62 9 AEv.dv ([]:List AEv)))::(10022,some (.R 130 4 da ud.df))::(10023,some (.mp (pN cM DV.bool ud.bh)))::(10024,some (.R 255 8 dm v4.aW))::t) [] [(10016,10007),(10017,10008),(10018,10009),(10019,10010),(10020,10011),(10021,10012),(10022,10013),(10023,10014),(10024,10015)] m64 qm (fun k15 Cx=>
   Bi (mN x0.fx (k15:Int)) fun xw=>
   eT 87 (bA 1 DV.bool) [xw] fun v20=>
   Ck (dL 1 (Cx.length+List.length v20))<|
   nX [] [(10018,88)] (some (Cx++v20))) fun Cx=>
  rX [(50000,33),(50001,10016),(50002,10001),(50003,10022),(50004,10023),(50005,10004),(50006,10024),(50007,10017),(50008,10018),(50009,10019),(50010,10020),(50011,10021)] (some (.inl (({ v6 with ba:=(aN.mk Ji.1 Cx Ji.2),dS:=([]:List aN),cj:=([]:List AEv) }:ay),ud,v4)))) fun ZW=>
  sm ZW (fun Ps=>
   rX [] (some (.inr (.inl ())))) fun ZX=>
   sm ZX (fun aph=>
    rX [] (some (.inr (.inr (.inr (.inl ())))))) fun api=>
    rX [] (some (.inr (.inr (.inr (.inr ())))))
instance adm{x0}:MA (zH x0) prog 19 (fun | .inl _=>12 | .inr (.inl _)=>0 | .inr (.inr (.inl _))=>0 | .inr (.inr (.inr (.inl _)))=>0 | .inr (.inr (.inr (.inr _)))=>0) fun | .inl r=>⟨[.agg (vh x0)],[],.gW [.ref 50000 0,.I 0],[(50000,some (.bC 145 (ay.b0 ({ r.1 with ba:=(aN.mk [] [] []) }:ay) (.row 50001) (.ref 50002 0) (.ref 50005 0) (.row 50007) (.row 50008) (.row 50009) (.row 50010) (.row 50011)))),(50001,some (.R 123 7 cW r.1.mf)),(50002,some (.bC 234 (aj.b0 r.2.1 (.row 50003) (.row 50004)))),(50003,some (.R 130 4 da r.2.1.df)),(50004,some (.mp (pN cM DV.bool r.2.1.bh))),(50005,some (.bC 240 [.row 50006])),(50006,some (.R 255 8 dm r.2.2.aW)),(50007,some (.R 152 3 ff r.1.ba.dw)),(50008,some (.R 4 1 DV.bool r.1.ba.aR)),(50009,some (.R 3 1 (DV.int .i64) r.1.ba.aX)),(50010,some (.R 143 3 fH r.1.dS)),(50011,some (.R 62 9 AEv.dv r.1.cj))],[50000,50001,50002,50003,50004,50005,50006,50007,50008,50009,50010,50011]⟩ | .inr (.inl r)=>⟨[.agg (vh x0)],[],.gW [.val (.pointer none),.I 1],[],[]⟩ | .inr (.inr (.inl r))=>⟨[.agg (vh x0)],[],.gW [.val (.pointer none),.I 2],[],[]⟩ | .inr (.inr (.inr (.inl r)))=>⟨[.agg (vh x0)],[],.gW [.val (.pointer none),.I 3],[],[]⟩ | .inr (.inr (.inr (.inr r)))=>⟨[.agg (vh x0)],[],.gW [.val (.pointer none),.I 5],[],[]⟩:=⟨fun {r} hM=>by unfold zH at hM;rcases r with r|r|r|r|r <;> exact ab func19 ntmps19⟩
noncomputable def lY(o0:ay)(o2:aj)(o5:aP):Option Bool :=
 rX [] (some false)
instance NU{o0 o2 o5}:MA (lY o0 o2 o5) prog 53 (fun _=>0) fun r=>⟨[.ref 100000 0],[(100000,some (.bC 145 (ay.b0 ({ o0 with ba:=(aN.mk [] [] []) }:ay) (.row 100001) (.ref 100002 0) (.ref 100005 0) (.row 100007) (.row 100008) (.row 100009) (.row 100010) (.row 100011)))),(100001,some (.R 123 7 cW o0.mf)),(100002,some (.bC 234 (aj.b0 o2 (.row 100003) (.row 100004)))),(100003,some (.R 130 4 da o2.df)),(100004,some (.mp (pN cM DV.bool o2.bh))),(100005,some (.bC 240 [.row 100006])),(100006,some (.R 255 8 dm o5.aW)),(100007,some (.R 152 3 ff o0.ba.dw)),(100008,some (.R 4 1 DV.bool o0.ba.aR)),(100009,some (.R 3 1 (DV.int .i64) o0.ba.aX)),(100010,some (.R 143 3 fH o0.dS)),(100011,some (.R 62 9 AEv.dv o0.cj))],.bool r,[(100000,some (.bC 145 (ay.b0 ({ o0 with ba:=(aN.mk [] [] []) }:ay) (.row 100001) (.ref 100002 0) (.ref 100005 0) (.row 100007) (.row 100008) (.row 100009) (.row 100010) (.row 100011)))),(100001,some (.R 123 7 cW o0.mf)),(100002,some (.bC 234 (aj.b0 o2 (.row 100003) (.row 100004)))),(100003,some (.R 130 4 da o2.df)),(100004,some (.mp (pN cM DV.bool o2.bh))),(100005,some (.bC 240 [.row 100006])),(100006,some (.R 255 8 dm o5.aW)),(100007,some (.R 152 3 ff o0.ba.dw)),(100008,some (.R 4 1 DV.bool o0.ba.aR)),(100009,some (.R 3 1 (DV.int .i64) o0.ba.aX)),(100010,some (.R 143 3 fH o0.dS)),(100011,some (.R 62 9 AEv.dv o0.cj))],[]⟩:=⟨fun hM=>by unfold lY at hM;exact ab func53 ntmps53⟩
noncomputable def qg(x0:aq)(x1:aH):Option Int :=
 Bi (ld x0.cG x1) fun v2=>
 some v2
instance Qd{x0 x1}:MC (qg x0 x1) fun r=>bx prog 369 [.agg (yf x0),.agg (cM x1)] (.I r):=⟨fun hM=>by unfold qg at hM;exact pb func369 ntmps369⟩
noncomputable def ed(x0:List aq)(x1:aH):Option (Int×Bool) :=
 wL (E:=Int) (0,(x0.length:Int)) [] [0,2,4,8] [4] (fun s t=>(9,.I s.1)::(10,.I s.2)::t) i2 [] [] (fun s3=>
  If (decide (s3.1<s3.2)) (
   Bi (idx x0 (IntKind.wrap .i64 (Int.fdiv (IntKind.wrap .u64 (IntKind.wrap .i64 (s3.1+s3.2))) (2^min (Int.toNat 1) (IntKind.bits .u64))))) fun v5=>
   Bi (qg v5 x1) fun v7=>
   If (decide (v7<0)) (
    nX [] [] (some (.next ((IntKind.wrap .i64 ((IntKind.wrap .i64 (Int.fdiv (IntKind.wrap .u64 (IntKind.wrap .i64 (s3.1+s3.2))) (2^min (Int.toNat 1) (IntKind.bits .u64))))+1)),s3.2))))<|
   nX [] [] (some (.next (s3.1,(IntKind.wrap .i64 (Int.fdiv (IntKind.wrap .u64 (IntKind.wrap .i64 (s3.1+s3.2))) (2^min (Int.toNat 1) (IntKind.bits .u64))))))))<|
  some (.done s3.1)) fun e12=>
 Bi (gb (decide (e12<(x0.length:Int))) (aq.mk (aH.mk 0 0 0 0) 0 0 []) (idx x0 e12)) fun v9=>
 Bi (gb (decide (e12<(x0.length:Int))) (0) (qg v9 x1)) fun v11=>
 rX [] (some (e12,((decide (e12<(x0.length:Int)))&&(v11==0))))
instance wM{x0 x1}:MA (ed x0 x1) prog 368 (fun _=>0) fun r=>⟨[.L 7 cW x0,.agg (cM x1),.val (.func (.func 369) #[] #[])],[],.gW [.I r.1,.bool r.2],[],[]⟩:=⟨fun hM=>by unfold ed at hM;exact ab func368 ntmps368⟩
noncomputable def rY(x0:bS)(x1:aH):Option (Int×Bool) :=
 Bi (cl 9 [] (ed x0.aW x1)) fun v2=>
 some (v2.1,v2.2)
instance Tl{x0 x1}:MC (rY x0 x1) fun r=>bx prog 330 [.agg (zn x0),.agg (cM x1)] (.gW [.I r.1,.bool r.2]):=⟨fun hM=>by unfold rY at hM;exact pb func330 ntmps330⟩
noncomputable def tw(x0:bS)(x1:aH):Option (aq×Bool) :=
 Bi (rY x0 x1) fun v2=>
 If (!v2.2) (
  some ((aq.mk (aH.mk 0 0 0 0) 0 0 []),false))<|
 Bi (idx x0.aW v2.1) fun v4=>
 Bi (rK v4) fun v6=>
 some (v6,true)
instance Vi{x0 x1}:MC (tw x0 x1) fun r=>bx prog 275 [.agg (zn x0),.agg (cM x1)] (.gW [.agg (yf r.1),.bool r.2]):=⟨fun hM=>by unfold tw at hM;exact pb func275 ntmps275⟩
@[reducible] noncomputable def pL(o0:aj)(v2:aq×Bool)(s4:(List (aH×Bool))):Option (aq×Bool×aj) :=
 rX [] (some (v2.1,v2.2,({ o0 with bh:=s4 }:aj)))
noncomputable def fE(x1:Int)(x2:Int)(x3:Int)(x4:Int)(o0:aj):Option (aq×Bool×aj) :=
 Bi (tw o0.gf (aH.mk x1 x2 x3 x4)) fun v2=>
 jn (pL o0 v2) 3 [100000,100001,100002] [10,13,14] [10,13,100000,100001] i2 (fun s t=>(100002,some (.mp (pN cM DV.bool s)))::t)<|
 If v2.2 (
  eT 0 nD (aH.mk x1 x2 x3 x4) fun _=>
  eT 1 DV.bool true fun _=>
  nX [] [] (pL o0 v2 (Hk cM o0.bh (aH.mk x1 x2 x3 x4) true)))<|
 nX [] [] (pL o0 v2 o0.bh)
instance IC{x1 x2 x3 x4 o0}:MA (fE x1 x2 x3 x4 o0) prog 210 (fun _=>3) fun r=>⟨[.ref 100000 0,.int .u8 x1,.I x2,.I x3,.I x4],[(100000,some (.bC 234 (aj.b0 o0 (.row 100001) (.row 100002)))),(100001,some (.R 130 4 da o0.df)),(100002,some (.mp (pN cM DV.bool o0.bh)))],.gW [.agg (yf r.1),.bool r.2.1],[(100000,some (.bC 234 (aj.b0 r.2.2 (.row 100001) (.row 100002)))),(100001,some (.R 130 4 da r.2.2.df)),(100002,some (.mp (pN cM DV.bool r.2.2.bh)))],[]⟩:=⟨fun hM=>by unfold fE at hM;exact ab func210 ntmps210⟩
noncomputable def jz(x1:aH)(o0:aj):Option aj :=
 Bi (cl 15 [] (fE x1.bw x1.gA x1.gB x1.gN o0)) fun v2=>
 rX [] (some v2.2.2)
instance Gq{x1 o0}:MA (jz x1 o0) prog 153 (fun _=>3) fun r=>⟨[.ref 100000 0,.agg (cM x1)],[(100000,some (.bC 234 (aj.b0 o0 (.row 100001) (.row 100002)))),(100001,some (.R 130 4 da o0.df)),(100002,some (.mp (pN cM DV.bool o0.bh)))],.gW [],[(100000,some (.bC 234 (aj.b0 r (.row 100001) (.row 100002)))),(100001,some (.R 130 4 da r.df)),(100002,some (.mp (pN cM DV.bool r.bh)))],[]⟩:=⟨fun hM=>by unfold jz at hM;exact ae func153 ntmps153⟩
noncomputable def jE(x1:Int)(o0:ay)(o2:aj)(o5:aP):Option ((List aq)×aj) :=
 fL (([]:List aq),o2.cY,o2.eG,o2.dh,o2.gf.aW,o2.df,o2.bh) 13 [100000,100001,100002,100003,100004,100005,100006,100007,100008,100009,100010,100011] [0,1,11,12] [100000,100001,100005,100006,100007,100008,100009,100010,100011] (fun _ t=>(5,.row 10001)::t) (fun s t=>(10001,some (.R 123 7 cW s.1))::(100002,some (.bC 234 (aj.b0 (aj.mk (bS.mk s.2.2.2.2.1) [] s.2.1 s.2.2.1 s.2.2.2.1 []) (.row 100003) (.row 100004))))::(100003,some (.R 130 4 da s.2.2.2.2.2.1))::(100004,some (.mp (pN cM DV.bool s.2.2.2.2.2.2)))::t) [.r 5 10002 123 7] [(10001,10002)] m64 (o0.mf.length:Int) (fun k1 s9=>
  Bi (idx o0.mf (k1:Int)) fun v11=>
  If ((v11.cG.bw==x1)&&(v11.AN==o0.rH)) (
   Bi (cl 37 [(100000,100002),(100001,100003),(100002,100004)] (jz v11.cG (aj.mk (bS.mk s9.2.2.2.2.1) s9.2.2.2.2.2.1 s9.2.1 s9.2.2.1 s9.2.2.2.1 s9.2.2.2.2.2.2))) fun mU=>
   eT 40 (bA 7 cW) [v11] fun qm=>
   Ck (dL 72 (s9.1.length+List.length qm))<|
   nX [] [(10001,41)] (some ((s9.1++qm),mU.cY,mU.eG,mU.dh,mU.gf.aW,mU.df,mU.bh)))<|
  nX [] [] (some (s9.1,s9.2.1,s9.2.2.1,s9.2.2.2.1,s9.2.2.2.2.1,s9.2.2.2.2.2.1,s9.2.2.2.2.2.2))) fun s9=>
 wk [.z 10001]<|rX [] (some (s9.1,(aj.mk (bS.mk s9.2.2.2.2.1) s9.2.2.2.2.2.1 s9.2.1 s9.2.2.1 s9.2.2.2.1 s9.2.2.2.2.2.2)))
instance PM{x1 o0 o2 o5}:MA (jE x1 o0 o2 o5) prog 98 (fun _=>3) fun r=>⟨[.ref 100000 0,.int .u8 x1],[(100000,some (.bC 145 (ay.b0 ({ o0 with ba:=(aN.mk [] [] []) }:ay) (.row 100001) (.ref 100002 0) (.ref 100005 0) (.row 100007) (.row 100008) (.row 100009) (.row 100010) (.row 100011)))),(100001,some (.R 123 7 cW o0.mf)),(100002,some (.bC 234 (aj.b0 o2 (.row 100003) (.row 100004)))),(100003,some (.R 130 4 da o2.df)),(100004,some (.mp (pN cM DV.bool o2.bh))),(100005,some (.bC 240 [.row 100006])),(100006,some (.R 255 8 dm o5.aW)),(100007,some (.R 152 3 ff o0.ba.dw)),(100008,some (.R 4 1 DV.bool o0.ba.aR)),(100009,some (.R 3 1 (DV.int .i64) o0.ba.aX)),(100010,some (.R 143 3 fH o0.dS)),(100011,some (.R 62 9 AEv.dv o0.cj))],.L 7 cW r.1,[(100002,some (.bC 234 (aj.b0 r.2 (.row 100003) (.row 100004)))),(100003,some (.R 130 4 da r.2.df)),(100004,some (.mp (pN cM DV.bool r.2.bh))),(100000,some (.bC 145 (ay.b0 ({ o0 with ba:=(aN.mk [] [] []) }:ay) (.row 100001) (.ref 100002 0) (.ref 100005 0) (.row 100007) (.row 100008) (.row 100009) (.row 100010) (.row 100011)))),(100001,some (.R 123 7 cW o0.mf)),(100005,some (.bC 240 [.row 100006])),(100006,some (.R 255 8 dm o5.aW)),(100007,some (.R 152 3 ff o0.ba.dw)),(100008,some (.R 4 1 DV.bool o0.ba.aR)),(100009,some (.R 3 1 (DV.int .i64) o0.ba.aX)),(100010,some (.R 143 3 fH o0.dS)),(100011,some (.R 62 9 AEv.dv o0.cj))],[]⟩:=⟨fun hM=>by unfold jE at hM;exact ab func98 ntmps98⟩
noncomputable def fq(x1:AEv)(o0:ay)(o2:aj)(o5:aP):Option ay :=
 Ck (dL 8 (x1.bR.length))<|
 wk [.z 11]<|
 eT 19 (bA 9 AEv.dv) [({ x1 with vI:=o0.rH }:AEv)] fun v2=>
 Ck (dL 88 (o0.cj.length+List.length v2))<|
 rX [(50000,20)] (some ({ o0 with cj:=(o0.cj++v2) }:ay))
instance PN{x1 o0 o2 o5}:MA (fq x1 o0 o2 o5) prog 99 (fun _=>8) fun r=>⟨[.ref 100000 0,.agg (AEv.cs x1)],[(100000,some (.bC 145 (ay.b0 ({ o0 with ba:=(aN.mk [] [] []) }:ay) (.row 100001) (.ref 100002 0) (.ref 100005 0) (.row 100007) (.row 100008) (.row 100009) (.row 100010) (.row 100011)))),(100001,some (.R 123 7 cW o0.mf)),(100002,some (.bC 234 (aj.b0 o2 (.row 100003) (.row 100004)))),(100003,some (.R 130 4 da o2.df)),(100004,some (.mp (pN cM DV.bool o2.bh))),(100005,some (.bC 240 [.row 100006])),(100006,some (.R 255 8 dm o5.aW)),(100007,some (.R 152 3 ff o0.ba.dw)),(100008,some (.R 4 1 DV.bool o0.ba.aR)),(100009,some (.R 3 1 (DV.int .i64) o0.ba.aX)),(100010,some (.R 143 3 fH o0.dS)),(100011,some (.R 62 9 AEv.dv o0.cj))],.gW [],[(100000,some (.bC 145 (ay.b0 ({ r with ba:=(aN.mk [] [] []) }:ay) (.row 100001) (.ref 100002 0) (.ref 100005 0) (.row 100007) (.row 100008) (.row 100009) (.row 100010) (.row 50000)))),(100001,some (.R 123 7 cW r.mf)),(100007,some (.R 152 3 ff r.ba.dw)),(100008,some (.R 4 1 DV.bool r.ba.aR)),(100009,some (.R 3 1 (DV.int .i64) r.ba.aX)),(100010,some (.R 143 3 fH r.dS)),(50000,some (.R 62 9 AEv.dv r.cj)),(100011,none),(100002,some (.bC 234 (aj.b0 o2 (.row 100003) (.row 100004)))),(100003,some (.R 130 4 da o2.df)),(100004,some (.mp (pN cM DV.bool o2.bh))),(100005,some (.bC 240 [.row 100006])),(100006,some (.R 255 8 dm o5.aW))],[50000]⟩:=⟨fun hM=>by unfold fq at hM;exact ae func99 ntmps99⟩
noncomputable def oV(o0:ay)(o2:aj)(o5:aP):Option (ay×aj) :=
 Bi (cl 5 [] (jE 2 o0 o2 o5)) fun v2=>
 fL (o0.CJ,o0.mf,o0.sG,o0.rH,o0.ba.dw,o0.ba.aR,o0.ba.aX,o0.dS,o0.cj) 7 [100000,100001,100002,100003,100004,100005,100006,100007,100008,100009,100010,100011] [0,5,6] [100002,100003,100004,100005,100006] i2 (fun s t=>(10001,some (.R 62 9 AEv.dv s.2.2.2.2.2.2.2.2))::(100000,some (.bC 145 (ay.b0 (ay.mk s.1 [] s.2.2.1 () () s.2.2.2.1 (aN.mk [] [] []) [] []) (.row 100001) (.ref 100002 0) (.ref 100005 0) (.row 100007) (.row 100008) (.row 100009) (.row 100010) (.row 10001))))::(100001,some (.R 123 7 cW s.2.1))::(100007,some (.R 152 3 ff s.2.2.2.2.1))::(100008,some (.R 4 1 DV.bool s.2.2.2.2.2.1))::(100009,some (.R 3 1 (DV.int .i64) s.2.2.2.2.2.2.1))::(100010,some (.R 143 3 fH s.2.2.2.2.2.2.2.1))::t) [] [(10001,100011)] m64 (v2.1.length:Int) (fun k3 tF=>
  Bi (idx v2.1 (k3:Int)) fun qs=>
  Bi (idx tF.2.2.2.2.2.1 qs.cG.gA) fun qt=>
  eT 22 DV.bool (qs.gD==1) fun ob=>
  Bi (fb tF.1.fx) fun v20=>
  Bi (cl 39 [(100011,10001),(50000,10002)] (fq (AEv.mk 0 v20 1 qs.cG.gA qs.cG.gN 0 0 qs.gD []) (ay.mk tF.1 tF.2.1 tF.2.2.1 () () tF.2.2.2.1 (aN.mk tF.2.2.2.2.1 (List.set tF.2.2.2.2.2.1 (Int.toNat qs.cG.gA) ob) tF.2.2.2.2.2.2.1) tF.2.2.2.2.2.2.2.1 tF.2.2.2.2.2.2.2.2) v2.2 o5)) fun vX=>
  nX [] [(10001,10002)] (some (vX.CJ,vX.mf,vX.sG,vX.rH,vX.ba.dw,vX.ba.aR,vX.ba.aX,vX.dS,vX.cj))) fun tF=>
 rX [(50000,10001)] (some ((ay.mk tF.1 tF.2.1 tF.2.2.1 () () tF.2.2.2.1 (aN.mk tF.2.2.2.2.1 tF.2.2.2.2.2.1 tF.2.2.2.2.2.2.1) tF.2.2.2.2.2.2.2.1 tF.2.2.2.2.2.2.2.2),v2.2))
instance NV{o0 o2 o5}:MA (oV o0 o2 o5) prog 54 (fun _=>11) fun r=>⟨[.ref 100000 0],[(100000,some (.bC 145 (ay.b0 ({ o0 with ba:=(aN.mk [] [] []) }:ay) (.row 100001) (.ref 100002 0) (.ref 100005 0) (.row 100007) (.row 100008) (.row 100009) (.row 100010) (.row 100011)))),(100001,some (.R 123 7 cW o0.mf)),(100002,some (.bC 234 (aj.b0 o2 (.row 100003) (.row 100004)))),(100003,some (.R 130 4 da o2.df)),(100004,some (.mp (pN cM DV.bool o2.bh))),(100005,some (.bC 240 [.row 100006])),(100006,some (.R 255 8 dm o5.aW)),(100007,some (.R 152 3 ff o0.ba.dw)),(100008,some (.R 4 1 DV.bool o0.ba.aR)),(100009,some (.R 3 1 (DV.int .i64) o0.ba.aX)),(100010,some (.R 143 3 fH o0.dS)),(100011,some (.R 62 9 AEv.dv o0.cj))],.gW [],[(100000,some (.bC 145 (ay.b0 ({ r.1 with ba:=(aN.mk [] [] []) }:ay) (.row 100001) (.ref 100002 0) (.ref 100005 0) (.row 100007) (.row 100008) (.row 100009) (.row 100010) (.row 50000)))),(100002,some (.bC 234 (aj.b0 r.2 (.row 100003) (.row 100004)))),(100001,some (.R 123 7 cW r.1.mf)),(100003,some (.R 130 4 da r.2.df)),(100004,some (.mp (pN cM DV.bool r.2.bh))),(100007,some (.R 152 3 ff r.1.ba.dw)),(100008,some (.R 4 1 DV.bool r.1.ba.aR)),(100009,some (.R 3 1 (DV.int .i64) r.1.ba.aX)),(100010,some (.R 143 3 fH r.1.dS)),(50000,some (.R 62 9 AEv.dv r.1.cj)),(100011,none),(100005,some (.bC 240 [.row 100006])),(100006,some (.R 255 8 dm o5.aW))],[50000]⟩:=⟨fun hM=>by unfold oV at hM;exact ae func54 ntmps54⟩
noncomputable def jP(x0:aD)(o0:Int):Option Bool :=
 rX [] (some ((x0.qo.bo==o0)&&(x0.qo.pB==6)))
instance HF{x0 o0}:MA (jP x0 o0) prog 155 (fun _=>0) fun r=>⟨[.agg (zY x0),.ref 100000 0],[(100000,some (.bC 3 [.I o0]))],.bool r,[(100000,some (.bC 3 [.I o0]))],[]⟩:=⟨fun hM=>by unfold jP at hM;exact ab func155 ntmps155⟩
noncomputable def fk(o1:Int)(o0:List aD):Option Int :=
 fO (E:=Int) () 8 [100000,100001] [0,1,7] [100000,100001] i2 i2 [] [] m64 (o0.length:Int) (fun k1 _=>
  Bi (idx o0 (k1:Int)) fun v4=>
  Bi (cl 16 [(100000,100001)] (jP v4 o1)) fun v6=>
  If v6 (
   rX [] (some (.done (k1:Int))))<|
  nX [] [] (some (.next ()))) fun
  |.next _=>
   rX [] (some (-1))
  |.done r=>some r
instance zp{o1 o0}:MA (fk o1 o0) prog 211 (fun _=>0) fun r=>⟨[.row 100000,.Dh 155 [.ref 100001 0]],[(100000,some (.R 255 8 dm o0)),(100001,some (.bC 3 [.I o1]))],.I r,[(100000,some (.R 255 8 dm o0)),(100001,some (.bC 3 [.I o1]))],[]⟩:=⟨fun hM=>by unfold fk at hM;exact ab func211 ntmps211⟩
noncomputable def fi(o1:Int)(o0:List aD):Option (((List aD))⊕((List aD))) :=
 Bi (cl 10 [] (fk o1 o0)) fun v2=>
 If (v2==(-1)) (
  rX [] (some (.inr o0)))<|
 wL (E:=(List aD)×Int) (o0,v2,(IntKind.wrap .i64 (v2+1))) [100000,100001] [0,1] [100001] (fun s t=>(5,.I s.2.1)::(6,.I s.2.2)::t) (fun s t=>(100000,some (.R 255 8 dm s.1))::t) [] [] (fun s6=>
  If (decide (s6.2.2<(s6.1.length:Int))) (
   Bi (idx s6.1 s6.2.2) fun v8=>
   Bi (cl 28 [(100000,100001)] (jP v8 o1)) fun v10=>
   If (!v10) (
    Bi (idx s6.1 s6.2.1) fun v12=>
    eT 33 dm v8 fun mU=>
    nX [] [] (some (.next ((List.set s6.1 (Int.toNat s6.2.1) mU),(IntKind.wrap .i64 (s6.2.1+1)),(IntKind.wrap .i64 (s6.2.2+1))))))<|
   nX [] [] (some (.next (s6.1,s6.2.1,(IntKind.wrap .i64 (s6.2.2+1))))))<|
  some (.done (s6.1,s6.2.1))) fun GD=>
 Ck (eN (GD.1.length) GD.2 (GD.1.length:Int))<|
 eT 38 dm (aD.mk 0 (cJ.mk 0 0 0 0 0 0 [])) fun _=>
 Ck (eN (List.length (Tk GD.1 (Int.toNat GD.2) (Int.toNat ((GD.1.length:Int)-GD.2)) (aD.mk 0 (cJ.mk 0 0 0 0 0 0 [])))) 0 GD.2)<|
 rX [(50000,41)] (some (.inl (List.take (Int.toNat GD.2) (Tk GD.1 (Int.toNat GD.2) (Int.toNat ((GD.1.length:Int)-GD.2)) (aD.mk 0 (cJ.mk 0 0 0 0 0 0 []))))))
instance yV{o1 o0}:MA (fi o1 o0) prog 154 (fun | .inl _=>2 | .inr _=>1) fun | .inl r=>⟨[.row 100000,.Dh 155 [.ref 100001 0]],[(100000,some (.R 255 8 dm o0)),(100001,some (.bC 3 [.I o1]))],.row 50000,[(50000,some (.R 255 8 dm r)),(100000,none),(100001,some (.bC 3 [.I o1]))],[50000]⟩ | .inr r=>⟨[.row 100000,.Dh 155 [.ref 100001 0]],[(100000,some (.R 255 8 dm o0)),(100001,some (.bC 3 [.I o1]))],.row 100000,[(100000,some (.R 255 8 dm r)),(100001,some (.bC 3 [.I o1]))],[]⟩:=⟨fun {r} hM=>by unfold fi at hM;rcases r with r|r <;> exact ab func154 ntmps154⟩
noncomputable def lf(x1:Int)(o0:aP):Option (Int×aP) :=
 Bi (cl 19 [(100000,100001),(100001,3),(50000,10001)] (fi x1 o0.aW)) fun v2=>
 sm v2 (fun ud=>
  rX [(50000,10001)] (some ((IntKind.wrap .i64 ((o0.aW.length:Int)-(ud.length:Int))),(aP.mk ud)))) fun Ps=>
  rX [(50000,100001)] (some ((IntKind.wrap .i64 ((o0.aW.length:Int)-(Ps.length:Int))),(aP.mk Ps)))
instance IY{x1 o0}:MA (lf x1 o0) prog 100 (fun _=>3) fun r=>⟨[.ref 100000 0,.I x1],[(100000,some (.bC 240 [.row 100001])),(100001,some (.R 255 8 dm o0.aW))],.I r.1,[(100000,some (.bC 240 [.row 50000])),(50000,some (.R 255 8 dm r.2.aW)),(100001,none)],[50000]⟩:=⟨fun hM=>by unfold lf at hM;exact ab func100 ntmps100⟩
noncomputable def nQ(x1:Int)(o0:ay)(o2:aj)(o5:aP):Option (ay×aj×aP) :=
 Bi (cl 8 [] (jE 4 o0 o2 o5)) fun v2=>
 fL (o0.CJ,o0.mf,o0.sG,o0.rH,o0.ba.dw,o0.ba.aR,o0.ba.aX,o0.dS,o0.cj,o5.aW) 10 [100000,100001,100002,100003,100004,100005,100006,100007,100008,100009,100010,100011] [0,1,8,9] [100002,100003,100004] i2 (fun s t=>(10001,some (.R 62 9 AEv.dv s.2.2.2.2.2.2.2.2.1))::(10002,some (.R 255 8 dm s.2.2.2.2.2.2.2.2.2))::(100000,some (.bC 145 (ay.b0 (ay.mk s.1 [] s.2.2.1 () () s.2.2.2.1 (aN.mk [] [] []) [] []) (.row 100001) (.ref 100002 0) (.ref 100005 0) (.row 100007) (.row 100008) (.row 100009) (.row 100010) (.row 10001))))::(100001,some (.R 123 7 cW s.2.1))::(100005,some (.bC 240 [.row 10002]))::(100007,some (.R 152 3 ff s.2.2.2.2.1))::(100008,some (.R 4 1 DV.bool s.2.2.2.2.2.1))::(100009,some (.R 3 1 (DV.int .i64) s.2.2.2.2.2.2.1))::(100010,some (.R 143 3 fH s.2.2.2.2.2.2.2.1))::t) [] [(10001,100011),(10002,100006)] m64 (v2.1.length:Int) (fun k3 sw=>
  Bi (idx v2.1 (k3:Int)) fun pF=>
  If (pF.cG.gA != x1) (
   nX [] [] (some (sw.1,sw.2.1,sw.2.2.1,sw.2.2.2.1,sw.2.2.2.2.1,sw.2.2.2.2.2.1,sw.2.2.2.2.2.2.1,sw.2.2.2.2.2.2.2.1,sw.2.2.2.2.2.2.2.2.1,sw.2.2.2.2.2.2.2.2.2)))<|
  Bi (lp sw.1.fx x1) fun ob=>
  Bi (idx sw.2.2.2.2.1 x1) fun v20=>
  eT 43 ff ({ ob with dW:=v20.dW }:aL) fun v21=>
  Bi (cl 49 [(100000,100005),(100001,10002),(50000,10003)] (lf x1 (aP.mk sw.2.2.2.2.2.2.2.2.2))) fun uG=>
  Bi (cl 56 [(100006,10003),(100011,10001),(50000,10004)] (fq (AEv.mk 0 x1 3 0 pF.cG.gN 0 0 0 []) (ay.mk sw.1 sw.2.1 sw.2.2.1 () () sw.2.2.2.1 (aN.mk (List.set sw.2.2.2.2.1 (Int.toNat x1) v21) sw.2.2.2.2.2.1 sw.2.2.2.2.2.2.1) sw.2.2.2.2.2.2.2.1 sw.2.2.2.2.2.2.2.2.1) v2.2 uG.2)) fun vY=>
  nX [] [(10001,10004),(10002,10003)] (some (vY.CJ,vY.mf,vY.sG,vY.rH,vY.ba.dw,vY.ba.aR,vY.ba.aX,vY.dS,vY.cj,uG.2.aW))) fun sw=>
 rX [(50000,10001),(50001,10002)] (some ((ay.mk sw.1 sw.2.1 sw.2.2.1 () () sw.2.2.2.1 (aN.mk sw.2.2.2.2.1 sw.2.2.2.2.2.1 sw.2.2.2.2.2.2.1) sw.2.2.2.2.2.2.2.1 sw.2.2.2.2.2.2.2.2.1),v2.2,(aP.mk sw.2.2.2.2.2.2.2.2.2)))
instance MQ{x1 o0 o2 o5}:MA (nQ x1 o0 o2 o5) prog 55 (fun _=>14) fun r=>⟨[.ref 100000 0,.I x1],[(100000,some (.bC 145 (ay.b0 ({ o0 with ba:=(aN.mk [] [] []) }:ay) (.row 100001) (.ref 100002 0) (.ref 100005 0) (.row 100007) (.row 100008) (.row 100009) (.row 100010) (.row 100011)))),(100001,some (.R 123 7 cW o0.mf)),(100002,some (.bC 234 (aj.b0 o2 (.row 100003) (.row 100004)))),(100003,some (.R 130 4 da o2.df)),(100004,some (.mp (pN cM DV.bool o2.bh))),(100005,some (.bC 240 [.row 100006])),(100006,some (.R 255 8 dm o5.aW)),(100007,some (.R 152 3 ff o0.ba.dw)),(100008,some (.R 4 1 DV.bool o0.ba.aR)),(100009,some (.R 3 1 (DV.int .i64) o0.ba.aX)),(100010,some (.R 143 3 fH o0.dS)),(100011,some (.R 62 9 AEv.dv o0.cj))],.gW [],[(100000,some (.bC 145 (ay.b0 ({ r.1 with ba:=(aN.mk [] [] []) }:ay) (.row 100001) (.ref 100002 0) (.ref 100005 0) (.row 100007) (.row 100008) (.row 100009) (.row 100010) (.row 50000)))),(100002,some (.bC 234 (aj.b0 r.2.1 (.row 100003) (.row 100004)))),(100005,some (.bC 240 [.row 50001])),(100001,some (.R 123 7 cW r.1.mf)),(100003,some (.R 130 4 da r.2.1.df)),(100004,some (.mp (pN cM DV.bool r.2.1.bh))),(100007,some (.R 152 3 ff r.1.ba.dw)),(100008,some (.R 4 1 DV.bool r.1.ba.aR)),(100009,some (.R 3 1 (DV.int .i64) r.1.ba.aX)),(100010,some (.R 143 3 fH r.1.dS)),(50000,some (.R 62 9 AEv.dv r.1.cj)),(50001,some (.R 255 8 dm r.2.2.aW)),(100006,none),(100011,none)],[50000,50001]⟩:=⟨fun hM=>by unfold nQ at hM;exact ae func55 ntmps55⟩
noncomputable def mD(x1:Int)(o0:ay)(o2:aj)(o5:aP):Option (ay×aj) :=
 Bi (cl 7 [] (jE 3 o0 o2 o5)) fun v2=>
 fL (o0.CJ,o0.mf,o0.sG,o0.rH,o0.ba.dw,o0.ba.aR,o0.ba.aX,o0.dS,o0.cj) 9 [100000,100001,100002,100003,100004,100005,100006,100007,100008,100009,100010,100011] [0,1,7,8] [100002,100003,100004,100005,100006] i2 (fun s t=>(10001,some (.R 62 9 AEv.dv s.2.2.2.2.2.2.2.2))::(100000,some (.bC 145 (ay.b0 (ay.mk s.1 [] s.2.2.1 () () s.2.2.2.1 (aN.mk [] [] []) [] []) (.row 100001) (.ref 100002 0) (.ref 100005 0) (.row 100007) (.row 100008) (.row 100009) (.row 100010) (.row 10001))))::(100001,some (.R 123 7 cW s.2.1))::(100007,some (.R 152 3 ff s.2.2.2.2.1))::(100008,some (.R 4 1 DV.bool s.2.2.2.2.2.1))::(100009,some (.R 3 1 (DV.int .i64) s.2.2.2.2.2.2.1))::(100010,some (.R 143 3 fH s.2.2.2.2.2.2.2.1))::t) [] [(10001,100011)] m64 (v2.1.length:Int) (fun k3 tF=>
  Bi (idx v2.1 (k3:Int)) fun qs=>
  If (qs.cG.gA != x1) (
   nX [] [] (some (tF.1,tF.2.1,tF.2.2.1,tF.2.2.2.1,tF.2.2.2.2.1,tF.2.2.2.2.2.1,tF.2.2.2.2.2.2.1,tF.2.2.2.2.2.2.2.1,tF.2.2.2.2.2.2.2.2)))<|
  Bi (idx tF.2.2.2.2.2.2.1 x1) fun qt=>
  eT 26 (DV.int .i64) qs.gD fun ob=>
  Bi (cl 35 [(100011,10001),(50000,10002)] (fq (AEv.mk 0 x1 2 0 qs.cG.gN 0 0 qs.gD []) (ay.mk tF.1 tF.2.1 tF.2.2.1 () () tF.2.2.2.1 (aN.mk tF.2.2.2.2.1 tF.2.2.2.2.2.1 (List.set tF.2.2.2.2.2.2.1 (Int.toNat x1) ob)) tF.2.2.2.2.2.2.2.1 tF.2.2.2.2.2.2.2.2) v2.2 o5)) fun v20=>
  nX [] [(10001,10002)] (some (v20.CJ,v20.mf,v20.sG,v20.rH,v20.ba.dw,v20.ba.aR,v20.ba.aX,v20.dS,v20.cj))) fun tF=>
 rX [(50000,10001)] (some ((ay.mk tF.1 tF.2.1 tF.2.2.1 () () tF.2.2.2.1 (aN.mk tF.2.2.2.2.1 tF.2.2.2.2.2.1 tF.2.2.2.2.2.2.1) tF.2.2.2.2.2.2.2.1 tF.2.2.2.2.2.2.2.2),v2.2))
instance Lg{x1 o0 o2 o5}:MA (mD x1 o0 o2 o5) prog 56 (fun _=>11) fun r=>⟨[.ref 100000 0,.I x1],[(100000,some (.bC 145 (ay.b0 ({ o0 with ba:=(aN.mk [] [] []) }:ay) (.row 100001) (.ref 100002 0) (.ref 100005 0) (.row 100007) (.row 100008) (.row 100009) (.row 100010) (.row 100011)))),(100001,some (.R 123 7 cW o0.mf)),(100002,some (.bC 234 (aj.b0 o2 (.row 100003) (.row 100004)))),(100003,some (.R 130 4 da o2.df)),(100004,some (.mp (pN cM DV.bool o2.bh))),(100005,some (.bC 240 [.row 100006])),(100006,some (.R 255 8 dm o5.aW)),(100007,some (.R 152 3 ff o0.ba.dw)),(100008,some (.R 4 1 DV.bool o0.ba.aR)),(100009,some (.R 3 1 (DV.int .i64) o0.ba.aX)),(100010,some (.R 143 3 fH o0.dS)),(100011,some (.R 62 9 AEv.dv o0.cj))],.gW [],[(100000,some (.bC 145 (ay.b0 ({ r.1 with ba:=(aN.mk [] [] []) }:ay) (.row 100001) (.ref 100002 0) (.ref 100005 0) (.row 100007) (.row 100008) (.row 100009) (.row 100010) (.row 50000)))),(100002,some (.bC 234 (aj.b0 r.2 (.row 100003) (.row 100004)))),(100001,some (.R 123 7 cW r.1.mf)),(100003,some (.R 130 4 da r.2.df)),(100004,some (.mp (pN cM DV.bool r.2.bh))),(100007,some (.R 152 3 ff r.1.ba.dw)),(100008,some (.R 4 1 DV.bool r.1.ba.aR)),(100009,some (.R 3 1 (DV.int .i64) r.1.ba.aX)),(100010,some (.R 143 3 fH r.1.dS)),(50000,some (.R 62 9 AEv.dv r.1.cj)),(100011,none),(100005,some (.bC 240 [.row 100006])),(100006,some (.R 255 8 dm o5.aW))],[50000]⟩:=⟨fun hM=>by unfold mD at hM;exact ae func56 ntmps56⟩
@[reducible] noncomputable def uF(s3:Unit):Option Int :=
 some 1
@[reducible] noncomputable def uE(x1:cJ)(s5:Bool):Option Int :=
 If s5 (
  If ((x1.pd==0)&&(x1.kV==0)) (
   some 0)<|
  nX [] [] (uF ()))<|
 nX [] [] (uF ())
noncomputable def vN(x0:Int)(x1:cJ):Option Int :=
 fO (E:=Int) () 19 [] [3,18] [3] i2 i2 [] [] m64 6 (fun k1 _=>
  Bi (idx ([x0,x1.bo,x1.pd,x1.gN,x1.kV,x1.bM]:List Int) (k1:Int)) fun v7=>
  eT 21 (DV.int .i64) v7 fun _=>
  eb 21 ([x0,x1.bo,x1.pd,x1.gN,x1.kV,x1.bM]:List Int)<|
  If (decide (v7<0)) (
   some (.done 1))<|
  nX [] [] (some (.next ()))) fun
  |.next _=>
   jn uF 7 [] [] [] i2 i2<|
   If (x1.pB==5) (
    some 0)<|
   jn (uE x1) 10 [] [3] [3] (fun s t=>(29,.bool s)::t) i2<|
   If (x1.pB==4) (
    nX [] [] (uE x1 (x1.pB==4)))<|
   nX [] [] (uE x1 (x1.pB==6))
  |.done r=>some r
instance Zg{x0 x1}:MC (vN x0 x1) fun r=>bx prog 212 [.I x0,.agg (CM x1)] (.I r):=⟨fun hM=>by unfold vN at hM;exact pb func212 ntmps212⟩
noncomputable def tU(x0:cJ):Option cJ :=
 Ck (dL 8 (x0.bR.length))<|
 wk [.z 5]<|some x0
instance Zf{x0}:MC (tU x0) fun r=>bx prog 105 [.agg (CM x0)] (.agg (CM r)):=⟨fun hM=>by unfold tU at hM;exact pb func105 ntmps105⟩
noncomputable def kt(x0:Int):Option Bool :=
 some (x0 != x0)
instance Ig{x0}:MC (kt x0) fun r=>bx prog 331 [.int .u8 x0] (.bool r):=⟨fun hM=>by unfold kt at hM;exact pb func331 ntmps331⟩
noncomputable def jB(x0:Int)(x1:Int):Option Int :=
 Bi (kt x0) fun v2=>
 Bi (kt x1) fun v4=>
 If v2 (
  If v4 (
   some 0)<|
  some (-1))<|
 If v4 (
  some 1)<|
 If (decide (x0<x1)) (
  some (-1))<|
 If (decide (x1<x0)) (
  some 1)<|
 some 0
instance Gv{x0 x1}:MC (jB x0 x1) fun r=>bx prog 277 [.int .u8 x0,.int .u8 x1] (.I r):=⟨fun hM=>by unfold jB at hM;exact pb func277 ntmps277⟩
noncomputable def qS(x0:aD):Option (Nat→Int) :=
 If (x0.qo.pB==4) (
  some (arr 0 [x0.qo.bM,x0.qo.gN,0]))<|
 If (x0.qo.pB==5) (
  some (arr 0 [x0.qo.pd,x0.qo.gN,x0.qo.kV]))<|
 some (arr 0 [x0.qo.gN,0,0])
instance Rt{x0}:MC (qS x0) fun r=>bx prog 276 [.agg (zY x0)] (.agg (OZ.cs r)):=⟨fun hM=>by unfold qS at hM;exact pb func276 ntmps276⟩
noncomputable def tC(x0:aD)(x1:aD):Option Int :=
 Bi (eM x0.qo.bo x1.qo.bo) fun v2=>
 Bi (eM x0.SL x1.SL) fun v4=>
 Bi (jB x0.qo.pB x1.qo.pB) fun v6=>
 eT 28 (bA 1 (DV.int .i64)) [v2,v4,v6] fun v7=>
 Bi (tv v7) fun v9=>
 If (v9 != 0) (
  some v9)<|
 Bi (qS x0) fun v11=>
 Bi (qS x1) fun mU=>
 Bi (eM (v11 0) (mU 0)) fun qs=>
 Bi (eM (v11 1) (mU 1)) fun qt=>
 Bi (eM (v11 2) (mU 2)) fun xw=>
 eT 54 (bA 1 (DV.int .i64)) [qs,qt,xw] fun v20=>
 Bi (tv v20) fun vX=>
 some vX
instance Vt{x0 x1}:MC (tC x0 x1) fun r=>bx prog 214 [.agg (zY x0),.agg (zY x1)] (.I r):=⟨fun hM=>by unfold tC at hM;exact pbz func214 ntmps214 (wz [28,54])⟩
noncomputable def pD(x0:Int)(o1:aP)(o3:aD):Option Bool :=
 Bi (idx o1.aW x0) fun v2=>
 Bi (tC v2 o3) fun v4=>
 rX [] (some (decide (0<v4)))
instance Ko{x0 o1 o3}:MA (pD x0 o1 o3) prog 213 (fun _=>0) fun r=>⟨[.I x0,.ref 100000 0,.ref 100003 0],[(100000,some (.bC 136 [.ref 100001 0])),(100001,some (.bC 240 [.row 100002])),(100002,some (.R 255 8 dm o1.aW)),(100003,some (.bC 255 (zY o3)))],.bool r,[(100000,some (.bC 136 [.ref 100001 0])),(100001,some (.bC 240 [.row 100002])),(100002,some (.R 255 8 dm o1.aW)),(100003,some (.bC 255 (zY o3)))],[]⟩:=⟨fun hM=>by unfold pD at hM;exact ab func213 ntmps213⟩
noncomputable def uj(x0:Int)(o1:aP)(o3:aD):Option Int :=
 wL (E:=Int) (0,x0) [100000,100001,100002,100003] [1] [100000,100001,100002,100003] (fun s t=>(5,.I s.1)::(6,.I s.2)::t) i2 [] [] (fun s3=>
  If (decide (s3.1<s3.2)) (
   Bi (cl 20 [] (pD (IntKind.wrap .i64 (Int.fdiv (IntKind.wrap .u64 (IntKind.wrap .i64 (s3.1+s3.2))) (2^min (Int.toNat 1) (IntKind.bits .u64)))) o1 o3)) fun v5=>
   If (!v5) (
    nX [] [] (some (.next ((IntKind.wrap .i64 ((IntKind.wrap .i64 (Int.fdiv (IntKind.wrap .u64 (IntKind.wrap .i64 (s3.1+s3.2))) (2^min (Int.toNat 1) (IntKind.bits .u64))))+1)),s3.2))))<|
   nX [] [] (some (.next (s3.1,(IntKind.wrap .i64 (Int.fdiv (IntKind.wrap .u64 (IntKind.wrap .i64 (s3.1+s3.2))) (2^min (Int.toNat 1) (IntKind.bits .u64))))))))<|
  some (.done s3.1)) fun e6=>
 rX [] (some e6)
instance VV{x0 o1 o3}:MA (uj x0 o1 o3) prog 104 (fun _=>0) fun r=>⟨[.I x0,.Dh 213 [.ref 100000 0,.ref 100003 0]],[(100000,some (.bC 136 [.ref 100001 0])),(100001,some (.bC 240 [.row 100002])),(100002,some (.R 255 8 dm o1.aW)),(100003,some (.bC 255 (zY o3)))],.I r,[(100000,some (.bC 136 [.ref 100001 0])),(100001,some (.bC 240 [.row 100002])),(100002,some (.R 255 8 dm o1.aW)),(100003,some (.bC 255 (zY o3)))],[]⟩:=⟨fun hM=>by unfold uj at hM;exact ab func104 ntmps104⟩
noncomputable def nZ(x1:Int)(x2:cJ)(o0:aP):Option (Int×aP) :=
 Bi (vN x1 x2) fun v2=>
 If (v2 != 0) (
  rX [(50000,100001)] (some (v2,o0)))<|
 Bi (tU x2) fun v4=>
 Bi (cl 34 [(100000,3),(100001,100000),(100002,100001),(100003,8)] (uj (o0.aW.length:Int) o0 (aD.mk x1 v4))) fun v6=>
 eT 36 (bA 8 dm) [(aD.mk x1 v4)] fun v7=>
 Bi (cl 37 [(100000,100001),(100001,36),(50000,10001)] (Zh o0.aW v6 v7)) fun v9=>
 rX [(50000,10001)] (some (0,(aP.mk v9)))
instance Ng{x1 x2 o0}:MA (nZ x1 x2 o0) prog 156 (fun _=>3) fun r=>⟨[.ref 100000 0,.I x1,.agg (CM x2)],[(100000,some (.bC 240 [.row 100001])),(100001,some (.R 255 8 dm o0.aW))],.I r.1,[(100000,some (.bC 240 [.row 50000])),(50000,some (.R 255 8 dm r.2.aW)),(100001,none)],[50000]⟩:=⟨fun hM=>by unfold nZ at hM;exact ab func156 ntmps156⟩
noncomputable def iw(x1:Int)(x2:cJ)(o0:ay)(o2:aj)(o5:aP):Option aP :=
 If (decide (x1≤o0.CJ.mL)) (
  Bi (cl 19 [(100000,100005),(100001,100006),(50000,10001)] (nZ x1 x2 o5)) fun v2=>
  rX [(50000,10001)] (some v2.2))<|
 rX [(50000,100006)] (some o5)
instance MN{x1 x2 o0 o2 o5}:MA (iw x1 x2 o0 o2 o5) prog 101 (fun _=>3) fun r=>⟨[.ref 100000 0,.I x1,.agg (CM x2)],[(100000,some (.bC 145 (ay.b0 ({ o0 with ba:=(aN.mk [] [] []) }:ay) (.row 100001) (.ref 100002 0) (.ref 100005 0) (.row 100007) (.row 100008) (.row 100009) (.row 100010) (.row 100011)))),(100001,some (.R 123 7 cW o0.mf)),(100002,some (.bC 234 (aj.b0 o2 (.row 100003) (.row 100004)))),(100003,some (.R 130 4 da o2.df)),(100004,some (.mp (pN cM DV.bool o2.bh))),(100005,some (.bC 240 [.row 100006])),(100006,some (.R 255 8 dm o5.aW)),(100007,some (.R 152 3 ff o0.ba.dw)),(100008,some (.R 4 1 DV.bool o0.ba.aR)),(100009,some (.R 3 1 (DV.int .i64) o0.ba.aX)),(100010,some (.R 143 3 fH o0.dS)),(100011,some (.R 62 9 AEv.dv o0.cj))],.gW [],[(100005,some (.bC 240 [.row 50000])),(50000,some (.R 255 8 dm r.aW)),(100006,none),(100000,some (.bC 145 (ay.b0 ({ o0 with ba:=(aN.mk [] [] []) }:ay) (.row 100001) (.ref 100002 0) (.ref 100005 0) (.row 100007) (.row 100008) (.row 100009) (.row 100010) (.row 100011)))),(100001,some (.R 123 7 cW o0.mf)),(100002,some (.bC 234 (aj.b0 o2 (.row 100003) (.row 100004)))),(100003,some (.R 130 4 da o2.df)),(100004,some (.mp (pN cM DV.bool o2.bh))),(100007,some (.R 152 3 ff o0.ba.dw)),(100008,some (.R 4 1 DV.bool o0.ba.aR)),(100009,some (.R 3 1 (DV.int .i64) o0.ba.aX)),(100010,some (.R 143 3 fH o0.dS)),(100011,some (.R 62 9 AEv.dv o0.cj))],[50000]⟩:=⟨fun hM=>by unfold iw at hM;exact ae func101 ntmps101⟩
noncomputable def mB(o0:ay)(o2:aj)(o5:aP):Option (aj×aP) :=
 Bi (cl 7 [] (jE 1 o0 o2 o5)) fun v2=>
 fL o5.aW 9 [100000,100001,100002,100003,100004,100005,100006,100007,100008,100009,100010,100011] [0,7,8] [100000,100001,100002,100003,100004,100007,100008,100009,100010,100011] i2 (fun s t=>(10001,some (.R 255 8 dm s))::(100005,some (.bC 240 [.row 10001]))::t) [] [(10001,100006)] m64 (v2.1.length:Int) (fun k3 s5=>
  Bi (idx v2.1 (k3:Int)) fun pF=>
  Bi (cl 30 [(100006,10001),(50000,10004)] (iw o0.rH (cJ.mk 4 pF.cG.gA 0 pF.cG.gN 0 pF.cG.gB pF.bR) o0 v2.2 (aP.mk s5))) fun ob=>
  nX [] [(10001,10004)] (some ob.aW)) fun s5=>
 fL s5 37 [100000,100001,100002,100003,100004,100005,100006,100007,100008,100009,100010,100011] [0,35,36] [100000,100001,100002,100003,100004,100007,100008,100009,100010,100011] i2 (fun s t=>(10002,some (.R 255 8 dm s))::(100005,some (.bC 240 [.row 10002]))::t) [] [(10002,10001)] m64 (o0.sG.length:Int) (fun k6 s8=>
  Bi (idx o0.sG (k6:Int)) fun v10=>
  Bi (gb (v10.qO.AN==o0.rH) (0) (fb o0.CJ.fx)) fun v12=>
  If ((v10.qO.AN==o0.rH)&&(decide (v10.cu.uS<v12))) (
   Bi (cl 84 [(100006,10002),(50000,10003)] (iw o0.rH (cJ.mk 5 v10.cu.uS v10.cu.gS v10.cu.gN v10.kV v10.qO.bM v10.qO.bR) o0 v2.2 (aP.mk s8))) fun qm=>
   nX [] [(10002,10003)] (some qm.aW))<|
  nX [] [] (some s8)) fun s8=>
 rX [(50000,10002)] (some (v2.2,(aP.mk s8)))
instance Ld{o0 o2 o5}:MA (mB o0 o2 o5) prog 57 (fun _=>6) fun r=>⟨[.ref 100000 0],[(100000,some (.bC 145 (ay.b0 ({ o0 with ba:=(aN.mk [] [] []) }:ay) (.row 100001) (.ref 100002 0) (.ref 100005 0) (.row 100007) (.row 100008) (.row 100009) (.row 100010) (.row 100011)))),(100001,some (.R 123 7 cW o0.mf)),(100002,some (.bC 234 (aj.b0 o2 (.row 100003) (.row 100004)))),(100003,some (.R 130 4 da o2.df)),(100004,some (.mp (pN cM DV.bool o2.bh))),(100005,some (.bC 240 [.row 100006])),(100006,some (.R 255 8 dm o5.aW)),(100007,some (.R 152 3 ff o0.ba.dw)),(100008,some (.R 4 1 DV.bool o0.ba.aR)),(100009,some (.R 3 1 (DV.int .i64) o0.ba.aX)),(100010,some (.R 143 3 fH o0.dS)),(100011,some (.R 62 9 AEv.dv o0.cj))],.gW [],[(100002,some (.bC 234 (aj.b0 r.1 (.row 100003) (.row 100004)))),(100005,some (.bC 240 [.row 50000])),(100003,some (.R 130 4 da r.1.df)),(100004,some (.mp (pN cM DV.bool r.1.bh))),(50000,some (.R 255 8 dm r.2.aW)),(100006,none),(100000,some (.bC 145 (ay.b0 ({ o0 with ba:=(aN.mk [] [] []) }:ay) (.row 100001) (.ref 100002 0) (.ref 100005 0) (.row 100007) (.row 100008) (.row 100009) (.row 100010) (.row 100011)))),(100001,some (.R 123 7 cW o0.mf)),(100007,some (.R 152 3 ff o0.ba.dw)),(100008,some (.R 4 1 DV.bool o0.ba.aR)),(100009,some (.R 3 1 (DV.int .i64) o0.ba.aX)),(100010,some (.R 143 3 fH o0.dS)),(100011,some (.R 62 9 AEv.dv o0.cj))],[50000]⟩:=⟨fun hM=>by unfold mB at hM;exact ae func57 ntmps57⟩
noncomputable def oz(x0:Int)(o1:aP)(o3:Int):Option Bool :=
 Bi (idx o1.aW x0) fun v2=>
 rX [] (some (decide (o3≤v2.qo.bo)))
instance IX{x0 o1 o3}:MA (oz x0 o1 o3) prog 102 (fun _=>0) fun r=>⟨[.I x0,.ref 100000 0,.ref 100003 0],[(100000,some (.bC 136 [.ref 100001 0])),(100001,some (.bC 240 [.row 100002])),(100002,some (.R 255 8 dm o1.aW)),(100003,some (.bC 3 [.I o3]))],.bool r,[(100000,some (.bC 136 [.ref 100001 0])),(100001,some (.bC 240 [.row 100002])),(100002,some (.R 255 8 dm o1.aW)),(100003,some (.bC 3 [.I o3]))],[]⟩:=⟨fun hM=>by unfold oz at hM;exact ab func102 ntmps102⟩
noncomputable def sZ(x0:Int)(o1:aP)(o3:Int):Option Int :=
 wL (E:=Int) (0,x0) [100000,100001,100002,100003] [1] [100000,100001,100002,100003] (fun s t=>(5,.I s.1)::(6,.I s.2)::t) i2 [] [] (fun s3=>
  If (decide (s3.1<s3.2)) (
   Bi (cl 20 [] (oz (IntKind.wrap .i64 (Int.fdiv (IntKind.wrap .u64 (IntKind.wrap .i64 (s3.1+s3.2))) (2^min (Int.toNat 1) (IntKind.bits .u64)))) o1 o3)) fun v5=>
   If (!v5) (
    nX [] [] (some (.next ((IntKind.wrap .i64 ((IntKind.wrap .i64 (Int.fdiv (IntKind.wrap .u64 (IntKind.wrap .i64 (s3.1+s3.2))) (2^min (Int.toNat 1) (IntKind.bits .u64))))+1)),s3.2))))<|
   nX [] [] (some (.next (s3.1,(IntKind.wrap .i64 (Int.fdiv (IntKind.wrap .u64 (IntKind.wrap .i64 (s3.1+s3.2))) (2^min (Int.toNat 1) (IntKind.bits .u64))))))))<|
  some (.done s3.1)) fun e6=>
 rX [] (some e6)
instance Ui{x0 o1 o3}:MA (sZ x0 o1 o3) prog 104 (fun _=>0) fun r=>⟨[.I x0,.Dh 102 [.ref 100000 0,.ref 100003 0]],[(100000,some (.bC 136 [.ref 100001 0])),(100001,some (.bC 240 [.row 100002])),(100002,some (.R 255 8 dm o1.aW)),(100003,some (.bC 3 [.I o3]))],.I r,[(100000,some (.bC 136 [.ref 100001 0])),(100001,some (.bC 240 [.row 100002])),(100002,some (.R 255 8 dm o1.aW)),(100003,some (.bC 3 [.I o3]))],[]⟩:=⟨fun hM=>by unfold sZ at hM;exact ab func104 ntmps104⟩
noncomputable def oy(x0:Int)(o1:aP)(o3:Int)(o4:Int):Option Bool :=
 Bi (idx o1.aW x0) fun v2=>
 rX [] (some ((decide (o3<v2.qo.bo))||((v2.qo.bo==o3)&&(decide (o4<v2.SL)))))
instance IW{x0 o1 o3 o4}:MA (oy x0 o1 o3 o4) prog 103 (fun _=>0) fun r=>⟨[.I x0,.ref 100000 0,.ref 100003 0,.ref 100004 0],[(100000,some (.bC 136 [.ref 100001 0])),(100001,some (.bC 240 [.row 100002])),(100002,some (.R 255 8 dm o1.aW)),(100003,some (.bC 3 [.I o3])),(100004,some (.bC 3 [.I o4]))],.bool r,[(100000,some (.bC 136 [.ref 100001 0])),(100001,some (.bC 240 [.row 100002])),(100002,some (.R 255 8 dm o1.aW)),(100003,some (.bC 3 [.I o3])),(100004,some (.bC 3 [.I o4]))],[]⟩:=⟨fun hM=>by unfold oy at hM;exact ab func103 ntmps103⟩
noncomputable def sY(x0:Int)(o1:aP)(o3:Int)(o4:Int):Option Int :=
 wL (E:=Int) (0,x0) [100000,100001,100002,100003,100004] [1] [100000,100001,100002,100003,100004] (fun s t=>(5,.I s.1)::(6,.I s.2)::t) i2 [] [] (fun s3=>
  If (decide (s3.1<s3.2)) (
   Bi (cl 20 [] (oy (IntKind.wrap .i64 (Int.fdiv (IntKind.wrap .u64 (IntKind.wrap .i64 (s3.1+s3.2))) (2^min (Int.toNat 1) (IntKind.bits .u64)))) o1 o3 o4)) fun v5=>
   If (!v5) (
    nX [] [] (some (.next ((IntKind.wrap .i64 ((IntKind.wrap .i64 (Int.fdiv (IntKind.wrap .u64 (IntKind.wrap .i64 (s3.1+s3.2))) (2^min (Int.toNat 1) (IntKind.bits .u64))))+1)),s3.2))))<|
   nX [] [] (some (.next (s3.1,(IntKind.wrap .i64 (Int.fdiv (IntKind.wrap .u64 (IntKind.wrap .i64 (s3.1+s3.2))) (2^min (Int.toNat 1) (IntKind.bits .u64))))))))<|
  some (.done s3.1)) fun e6=>
 rX [] (some e6)
instance Uh{x0 o1 o3 o4}:MA (sY x0 o1 o3 o4) prog 104 (fun _=>0) fun r=>⟨[.I x0,.Dh 103 [.ref 100000 0,.ref 100003 0,.ref 100004 0]],[(100000,some (.bC 136 [.ref 100001 0])),(100001,some (.bC 240 [.row 100002])),(100002,some (.R 255 8 dm o1.aW)),(100003,some (.bC 3 [.I o3])),(100004,some (.bC 3 [.I o4]))],.I r,[(100000,some (.bC 136 [.ref 100001 0])),(100001,some (.bC 240 [.row 100002])),(100002,some (.R 255 8 dm o1.aW)),(100003,some (.bC 3 [.I o3])),(100004,some (.bC 3 [.I o4]))],[]⟩:=⟨fun hM=>by unfold sY at hM;exact ab func104 ntmps104⟩
noncomputable def mS(x1:Int)(x2:Int)(o0:aP):Option ((List cJ)×aP) :=
 Bi (cl 24 [(100000,3),(100001,100000),(100002,100001),(100003,5)] (sZ (o0.aW.length:Int) o0 x2)) fun v2=>
 Bi (cl 31 [(100000,3),(100001,100000),(100002,100001),(100003,5),(100004,4)] (sY (o0.aW.length:Int) o0 x2 x1)) fun v4=>
 If (decide (v4≤v2)) (
  rX [(50000,100001)] (some (([]:List cJ),o0)))<|
 Ck (iJ 72 0 (IntKind.wrap .i64 (v4-v2)))<|
 eT 38 KH (cJ.mk 0 0 0 0 0 0 []) fun _=>
 Ck (eN (o0.aW.length) v2 v4)<|
 fL ([]:List cJ) 47 [100000,100001] [3,9,10,45,46] [3,100000,100001] (fun _ t=>(11,.row 10001)::t) (fun s t=>(10001,some (.R 160 7 KH s))::t) [] [(10001,38)] m64 (Int.toNat (v4-v2):Int) (fun k7 s9=>
  Ck (inV (v4-v2) v2 (k7:Int))<|
  Bi (idx o0.aW (v2+(k7:Int))) fun qm=>
  Bi (tU qm.qo) fun pF=>
  eT 55 (bA 7 KH) [pF] fun qt=>
  Ck (dL 72 (s9.length+List.length qt))<|
  nX [] [(10001,56)] (some (s9++qt))) fun s9=>
 Bi (cl 65 [(100000,100001),(50000,10002)] (Zi o0.aW v2 v4)) fun v11=>
 wk [.z 10001]<|rX [(50000,10002)] (some (s9,(aP.mk v11)))
instance LY{x1 x2 o0}:MA (mS x1 x2 o0) prog 58 (fun _=>3) fun r=>⟨[.ref 100000 0,.I x1,.I x2],[(100000,some (.bC 240 [.row 100001])),(100001,some (.R 255 8 dm o0.aW))],.L 7 KH r.1,[(100000,some (.bC 240 [.row 50000])),(50000,some (.R 255 8 dm r.2.aW)),(100001,none)],[50000]⟩:=⟨fun hM=>by unfold mS at hM;exact ab func58 ntmps58⟩
noncomputable def rZ(x0:bS):Option (List aH) :=
 Ck (iJ 32 0 (x0.aW.length:Int))<|
 eT 9 nD (aH.mk 0 0 0 0) fun _=>
 fL ([]:List aH) 13 [] [11,12] [] (fun _ t=>(3,.row 10001)::t) (fun s t=>(10001,some (.R 121 4 nD s))::t) [] [(10001,9)] m64 (x0.aW.length:Int) (fun k2 s4=>
  Bi (idx x0.aW (k2:Int)) fun v6=>
  eT 20 (bA 4 nD) [v6.cG] fun v7=>
  Ck (dL 32 (s4.length+List.length v7))<|
  nX [] [(10001,21)] (some (s4++v7))) fun s4=>
 wk [.z 10001]<|some s4
instance Tm{x0}:MC (rZ x0) fun r=>bx prog 217 [.agg (zn x0)] (.L 4 nD r):=⟨fun hM=>by unfold rZ at hM;exact pb func217 ntmps217⟩
noncomputable def gX(x1:Int)(x2:Int)(o0:aj):Option (List aH) :=
 Bi (rZ o0.gf) fun v2=>
 fL ([]:List aH) 16 [100000,100001,100002] [0,1,2,14,15] [100000,100001,100002] (fun _ t=>(7,.row 10001)::t) (fun s t=>(10001,some (.R 121 4 nD s))::t) [.r 7 10002 121 4] [(10001,10002)] m64 (v2.length:Int) (fun k3 s5=>
  Bi (idx v2 (k3:Int)) fun v7=>
  Ck (((v7.bw==8)&&(v7.gA==x1))=true→qv 8 x1)<|
  ea 36 (fun x=>[(DV.int .i64) x]) o0.dh<|
  Ck ((((v7.bw==8)&&(v7.gA==x1))&&(decide ((o0.dh (Int.toNat x1))≤v7.gN)))=true→qv 8 x1)<|
  ea 47 (fun x=>[(DV.int .i64) x]) o0.dh<|
  If ((((v7.bw==8)&&(v7.gA==x1))&&(decide ((o0.dh (Int.toNat x1))≤v7.gN)))&&(decide ((IntKind.wrap .i64 (v7.gN-(o0.dh (Int.toNat x1))))<x2))) (
   eT 55 (bA 4 nD) [v7] fun v10=>
   Ck (dL 32 (s5.length+List.length v10))<|
   nX [] [(10001,56)] (some (s5++v10)))<|
  nX [] [] (some s5)) fun s5=>
 wk [.z 10001]<|rX [] (some s5)
instance Gp{x1 x2 o0}:MA (gX x1 x2 o0) prog 158 (fun _=>0) fun r=>⟨[.ref 100000 0,.I x1,.I x2],[(100000,some (.bC 234 (aj.b0 o0 (.row 100001) (.row 100002)))),(100001,some (.R 130 4 da o0.df)),(100002,some (.mp (pN cM DV.bool o0.bh)))],.L 4 nD r,[(100000,some (.bC 234 (aj.b0 o0 (.row 100001) (.row 100002)))),(100001,some (.R 130 4 da o0.df)),(100002,some (.mp (pN cM DV.bool o0.bh)))],[]⟩:=⟨fun hM=>by unfold gX at hM;exact ab func158 ntmps158⟩
noncomputable def kU(x1:Int)(x2:Int)(o0:aj):Option (Int×(List Int)) :=
 Bi (fZ x1) fun v2=>
 If (!v2) (
  rX [] (some ((-1),([]:List Int))))<|
 Bi (cl 20 [] (gX x1 x2 o0)) fun v4=>
 fL ([]:List Int) 22 [100000,100001,100002] [0,1,20,21] [100000,100001,100002] (fun _ t=>(7,.row 10001)::t) (fun s t=>(10001,some (.R 3 1 (DV.int .i64) s))::t) [.r 7 10002 3 1] [(10001,10002)] m64 (v4.length:Int) (fun k5 s7=>
  Bi (idx v4 (k5:Int)) fun v10=>
  eT 29 (bA 1 (DV.int .i64)) [v10.gN] fun v11=>
  Ck (dL 8 (s7.length+List.length v11))<|
  nX [] [(10001,30)] (some (s7++v11))) fun s7=>
 Ck (qv 8 x1)<|
 ea 36 (fun x=>[(DV.int .i64) x]) o0.dh<|
 wk [.z 10001]<|rX [] (some ((o0.dh (Int.toNat x1)),s7))
instance IJ{x1 x2 o0}:MA (kU x1 x2 o0) prog 109 (fun _=>0) fun r=>⟨[.ref 100000 0,.I x1,.I x2],[(100000,some (.bC 234 (aj.b0 o0 (.row 100001) (.row 100002)))),(100001,some (.R 130 4 da o0.df)),(100002,some (.mp (pN cM DV.bool o0.bh)))],.gW [.I r.1,.L 1 (DV.int .i64) r.2],[(100000,some (.bC 234 (aj.b0 o0 (.row 100001) (.row 100002)))),(100001,some (.R 130 4 da o0.df)),(100002,some (.mp (pN cM DV.bool o0.bh)))],[]⟩:=⟨fun hM=>by unfold kU at hM;exact ab func109 ntmps109⟩
noncomputable def ju(x0:ByteArray)(x1:Int):Option Int :=
 some (firstIdx x0 (Int.toNat x1).toUInt8)
instance DS{x0 x1}:MC (ju x0 x1) fun r=>bx prog 371 [.str x0,.int .u8 x1] (.I r):=⟨fun hM=>by unfold ju at hM;exact pb func371 ntmps371⟩
noncomputable def sD(x0:ByteArray)(x1:Int):Option Int :=
 Bi (ju x0 x1) fun v2=>
 some v2
instance PG{x0 x1}:MC (sD x0 x1) fun r=>bx prog 333 [.str x0,.int .u8 x1] (.I r):=⟨fun hM=>by unfold sD at hM;exact pb func333 ntmps333⟩
noncomputable def rJ(x0:Int)(x1:Int):Option Bool :=
 Bi (uW x0) fun v2=>
 Bi (sD v2.adC x1) fun v4=>
 some (decide (0≤v4))
instance YJ{x0 x1}:MC (rJ x0 x1) fun r=>bx prog 280 [.int .u8 x0,.int .u8 x1] (.bool r):=⟨fun hM=>by unfold rJ at hM;exact pb func280 ntmps280⟩
@[reducible] noncomputable def qy(x1:aC)(s9:Unit):Option Bool :=
 some ((decide (0≤x1.gA))&&(decide (x1.gA≤63)))
@[reducible] noncomputable def qx(x1:aC)(Ji:Bool):Option Bool :=
 If Ji (
  If ((((decide (x1.gB<0))||(decide (63<x1.gB)))||(decide (x1.gN<0)))||(decide (4<x1.gN))) (
   some false)<|
  nX [] [] (qy x1 ()))<|
 nX [] [] (qy x1 ())
@[reducible] noncomputable def nY(x0:cD)(x1:aC)(tF:Bool):Option Bool :=
 If tF (
  some true)<|
 If (x1.cU==3) (
  some ((decide (0≤x1.gA))&&(decide (x1.gA<x0.dM))))<|
 jn (qx x1) 15 [] [3] [3] (fun s t=>(81,.bool s)::t) i2<|
 If (x1.cU==30) (
  nX [] [] (qx x1 (x1.cU==30)))<|
 nX [] [] (qx x1 (x1.cU==31))
noncomputable def qR(x0:cD)(x1:aC):Option Bool :=
 If ((decide (x1.cU<1))||(decide (34<x1.cU))) (
  some false)<|
 Bi (rJ x1.cU 65) fun v2=>
 Bi (gb (!((!v2)&&(x1.gA != 0))) (false) (rJ x1.cU 66)) fun v4=>
 Bi (gb (!(((!v2)&&(x1.gA != 0))||((!v4)&&(x1.gB != 0)))) (false) (rJ x1.cU 78)) fun v6=>
 If ((((!v2)&&(x1.gA != 0))||((!v4)&&(x1.gB != 0)))||((!v6)&&(x1.gN != 0))) (
  some false)<|
 Bi (la x1) fun v8=>
 If (v8.2&&((decide (v8.1<0))||(decide ((x0.rS.length:Int)<v8.1)))) (
  some false)<|
 jn (qy x1) 8 [] [3] [3] i2 i2<|
 jn (nY x0 x1) 9 [] [2,3,64] [2,3] (fun s t=>(65,.bool s)::t) i2<|
 If (x1.cU==27) (
  nX [] [] (nY x0 x1 (x1.cU==27)))<|
 If (x1.cU==28) (
  nX [] [] (nY x0 x1 (x1.cU==28)))<|
 nX [] [] (nY x0 x1 (x1.cU==32))
instance Rq{x0 x1}:MC (qR x0 x1) fun r=>bx prog 218 [.agg (CN x0),.agg (Br x1)] (.bool r):=⟨fun hM=>by unfold qR at hM;exact pb func218 ntmps218⟩
noncomputable def xh(x0:cD):Option Int :=
 If ((decide (64<x0.Ri))||(decide (4000<(x0.rS.length:Int)))) (
  some 3)<|
 If ((decide (x0.dM<0))||(decide (4<x0.dM))) (
  some 6)<|
 fO (E:=Int) () 27 [] [1,25,26] [1] i2 i2 [] [] m64 (x0.rS.length:Int) (fun k1 _=>
  Bi (idx x0.rS (k1:Int)) fun v6=>
  Bi (qR x0 v6) fun v8=>
  If (!v8) (
   some (.done 6))<|
  nX [] [] (some (.next ()))) fun
  |.next _=>
   Bi (tQ x0.rS) fun v4=>
   If ((!v4.2)||(v4.1 != x0.Ri)) (
    some 6)<|
   some 0
  |.done r=>some r
instance aaz{x0}:MC (xh x0) fun r=>bx prog 159 [.agg (CN x0)] (.I r):=⟨fun hM=>by unfold xh at hM;exact pb func159 ntmps159⟩
@[reducible] noncomputable def zO(s1:Unit):Option Bool :=
 rX [] (some true)
@[reducible] noncomputable def mg(x0:aC)(x1:aL)(s4:Bool):Option Bool :=
 If s4 (
  rX [] (some (decide (x0.gA<(x1.cX.length:Int)))))<|
 nX [] [] (zO ())
@[reducible] noncomputable def qQ(x0:aC)(x1:aL)(o0:List Bool)(s5:Bool):Option Bool :=
 If s5 (
  rX [] (some (decide (x0.gA<(x1.ez.length:Int)))))<|
 If (x0.cU==4) (
  rX [] (some (decide (x0.gA<(o0.length:Int)))))<|
 jn (mg x0 x1) 8 [100000] [3,4] [3,4,100000] (fun s t=>(27,.bool s)::t) i2<|
 If (x0.cU==6) (
  nX [] [] (mg x0 x1 (x0.cU==6)))<|
 If (x0.cU==7) (
  nX [] [] (mg x0 x1 (x0.cU==7)))<|
 If (x0.cU==8) (
  nX [] [] (mg x0 x1 (x0.cU==8)))<|
 If (x0.cU==25) (
  nX [] [] (mg x0 x1 (x0.cU==25)))<|
 nX [] [] (mg x0 x1 (x0.cU==26))
noncomputable def ux(x0:aC)(x1:aL)(Jf:List Int)(Mw:Int)(Mx:Int)(Mz:List Int)(o0:List Bool):Option Bool :=
 jn zO 1 [100000] [] [100000] i2 i2<|
 jn (qQ x0 x1 o0) 2 [100000] [3,4,5,8] [3,4,5,100000] (fun s t=>(9,.bool s)::t) i2<|
 If (x0.cU==2) (
  nX [] [] (qQ x0 x1 o0 (x0.cU==2)))<|
 If (x0.cU==24) (
  nX [] [] (qQ x0 x1 o0 (x0.cU==24)))<|
 nX [] [] (qQ x0 x1 o0 (x0.cU==33))
instance Wg{x0 x1 Jf Mw Mx Mz o0}:MA (ux x0 x1 Jf Mw Mx Mz o0) prog 160 (fun _=>0) fun r=>⟨[.agg (Br x0),.agg (KJ x1),.agg [.L 1 (DV.int .i64) Jf,.I Mw,.row 100000,.I Mx,.L 1 (DV.int .i64) Mz]],[(100000,some (.R 4 1 DV.bool o0))],.bool r,[(100000,some (.R 4 1 DV.bool o0))],[]⟩:=⟨fun hM=>by unfold ux at hM;exact ab func160 ntmps160⟩
noncomputable def tR(x0:Int)(x1:Int):Option Bool :=
 Bi (oD x0) fun v2=>
 Bi (gb v2 (false) (oD x1)) fun v4=>
 some ((v2&&(!v4))||(decide (x0<x1)))
instance YL{x0 x1}:MC (tR x0 x1) fun r=>bx prog 290 [.I x0,.I x1] (.bool r):=⟨fun hM=>by unfold tR at hM;exact pb func290 ntmps290⟩
noncomputable def iq(x1:Int)(x2:Int)(o0:List Int):Option (List Int) :=
 wL (E:=(List Int)) (o0,(IntKind.wrap .i64 (x1+1))) [100000] [0,1,2] [] (fun s t=>(6,.I s.2)::t) (fun s t=>(100000,some (.R 3 1 (DV.int .i64) s.1))::t) [] [] (fun s3=>
  If (decide (s3.2<x2)) (
   wL (E:=(List Int)) (s3.1,s3.2) [100000] [0,1,2,6] [] (fun s t=>(7,.I s.2)::t) (fun s t=>(100000,some (.R 3 1 (DV.int .i64) s.1))::t) [] [] (fun s6=>
    Bi (gb (decide (x1<s6.2)) 0 (idx s6.1 s6.2)) fun v8=>
    Bi (gb (decide (x1<s6.2)) 0 (idx s6.1 (IntKind.wrap .i64 (s6.2-1)))) fun v10=>
    Bi (gb (decide (x1<s6.2)) (false) (tR v8 v10)) fun v12=>
    If ((decide (x1<s6.2))&&v12) (
     Bi (idx s6.1 (IntKind.wrap .i64 (s6.2-1))) fun qm=>
     Bi (idx s6.1 s6.2) fun pF=>
     eT 47 (DV.int .i64) qm fun qt=>
     Bi (idx (List.set s6.1 (Int.toNat s6.2) qt) (IntKind.wrap .i64 (s6.2-1))) fun xw=>
     eT 48 (DV.int .i64) pF fun v20=>
     nX [] [] (some (.next ((List.set (List.set s6.1 (Int.toNat s6.2) qt) (Int.toNat (IntKind.wrap .i64 (s6.2-1))) v20),(IntKind.wrap .i64 (s6.2-1))))))<|
    some (.done s6.1)) fun e21=>
   nX [] [] (some (.next (e21,(IntKind.wrap .i64 (s3.2+1))))))<|
  some (.done s3.1)) fun e22=>
 rX [] (some e22)
instance CE{x1 x2 o0}:MA (iq x1 x2 o0) prog 284 (fun _=>1) fun r=>⟨[.row 100000,.I x1,.I x2],[(100000,some (.R 3 1 (DV.int .i64) o0))],.gW [],[(100000,some (.R 3 1 (DV.int .i64) r))],[]⟩:=⟨fun hM=>by unfold iq at hM;exact ae func284 ntmps284⟩
@[reducible] noncomputable def qH(s3:Unit):Option (List Int) :=
 none
noncomputable def ky(x1:Int)(x2:Int)(x3:Int)(o0:List Int):Option (List Int) :=
 o1<|
 If (decide ((IntKind.wrap .i64 (x2-x1))≤12)) (
  Bi (cl 27 [] (iq x1 x2 o0)) fun v2=>
  rX [] (some v2))<|
 If (x3==0) (
  none)<|
 jn qH 7 [100000] [0,1,2,3,8,9,10] [100000] i2 i2<|
 If (!true) (
  none)<|
 nX [] [] (qH ())
instance Fs{x1 x2 x3 o0}:MA (ky x1 x2 x3 o0) prog 220 (fun _=>1) fun r=>⟨[.row 100000,.I x1,.I x2,.I x3],[(100000,some (.R 3 1 (DV.int .i64) o0))],.gW [],[(100000,some (.R 3 1 (DV.int .i64) r))],[]⟩:=⟨fun hM=>by unfold ky at hM;exact ae func220 ntmps220⟩
noncomputable def lK(o0:List Int):Option (List Int) :=
 Bi (oB (IntKind.wrap .u64 (o0.length:Int))) fun v2=>
 Bi (cl 10 [] (ky 0 (o0.length:Int) v2 o0)) fun v4=>
 rX [] (some v4)
instance Jw{o0}:MA (lK o0) prog 162 (fun _=>1) fun r=>⟨[.row 100000],[(100000,some (.R 3 1 (DV.int .i64) o0))],.gW [],[(100000,some (.R 3 1 (DV.int .i64) r))],[]⟩:=⟨fun hM=>by unfold lK at hM;exact ae func162 ntmps162⟩
noncomputable def dY(x1:Int)(o0:aJ):Option aJ :=
 eT 10 (bA 1 (DV.int .i64)) [x1] fun v1=>
 Ck (dL 8 (o0.cy.length+List.length v1))<|
 rX [(50000,11)] (some ({ o0 with cy:=(o0.cy++v1) }:aJ))
instance Nb{x1 o0}:MA (dY x1 o0) prog 293 (fun _=>3) fun r=>⟨[.ref 100000 0,.I x1],[(100000,some (.bC 361 (aJ.b0 o0 (.row 100001) (.row 100002) (.row 100003) (.row 100004) (.row 100005)))),(100001,some (.R 2 1 (DV.int .i64) o0.aE.bG.ez)),(100002,some (.R 150 1 jm o0.aE.bG.cX)),(100003,some (.R 279 8 oc o0.aE.cZ)),(100004,some (.R 4 1 DV.bool o0.bX.aR)),(100005,some (.R 2 1 (DV.int .i64) o0.cy))],.gW [],[(100000,some (.bC 361 (aJ.b0 r (.row 100001) (.row 100002) (.row 100003) (.row 100004) (.row 50000)))),(50000,some (.R 2 1 (DV.int .i64) r.cy)),(100005,none),(100001,some (.R 2 1 (DV.int .i64) o0.aE.bG.ez)),(100002,some (.R 150 1 jm o0.aE.bG.cX)),(100003,some (.R 279 8 oc o0.aE.cZ)),(100004,some (.R 4 1 DV.bool o0.bX.aR))],[50000]⟩:=⟨fun hM=>by unfold dY at hM;exact ae func293 ntmps293⟩
noncomputable def wE(x0:Bool):Option Int :=
 If x0 (
  some 1)<|
 some 0
instance ab1{x0}:MC (wE x0) fun r=>bx prog 294 [.bool x0] (.I r):=⟨fun hM=>by unfold wE at hM;exact pb func294 ntmps294⟩
noncomputable def dU(o0:aJ):Option (Int×aJ) :=
 Bi (idx o0.cy (IntKind.wrap .i64 ((o0.cy.length:Int)-1))) fun v2=>
 Ck (eN (o0.cy.length) 0 (IntKind.wrap .i64 ((o0.cy.length:Int)-1)))<|
 rX [(50000,24)] (some (v2,({ o0 with cy:=(List.take (Int.toNat (IntKind.wrap .i64 ((o0.cy.length:Int)-1))) o0.cy) }:aJ)))
instance OO{o0}:MA (dU o0) prog 296 (fun _=>3) fun r=>⟨[.ref 100000 0],[(100000,some (.bC 361 (aJ.b0 o0 (.row 100001) (.row 100002) (.row 100003) (.row 100004) (.row 100005)))),(100001,some (.R 2 1 (DV.int .i64) o0.aE.bG.ez)),(100002,some (.R 150 1 jm o0.aE.bG.cX)),(100003,some (.R 279 8 oc o0.aE.cZ)),(100004,some (.R 4 1 DV.bool o0.bX.aR)),(100005,some (.R 2 1 (DV.int .i64) o0.cy))],.I r.1,[(100000,some (.bC 361 (aJ.b0 r.2 (.row 100001) (.row 100002) (.row 100003) (.row 100004) (.row 50000)))),(50000,some (.R 2 1 (DV.int .i64) r.2.cy)),(100005,none),(100001,some (.R 2 1 (DV.int .i64) o0.aE.bG.ez)),(100002,some (.R 150 1 jm o0.aE.bG.cX)),(100003,some (.R 279 8 oc o0.aE.cZ)),(100004,some (.R 4 1 DV.bool o0.bX.aR))],[50000]⟩:=⟨fun hM=>by unfold dU at hM;exact ab func296 ntmps296⟩
noncomputable def kW(x0:Bool):Option Int :=
 If x0 (
  some 1)<|
 some 0
instance abZ{x0}:MC (kW x0) fun r=>bx prog 337 [.bool x0] (.I r):=⟨fun hM=>by unfold kW at hM;exact pb func337 ntmps337⟩
noncomputable def yz(x0:Int)(x1:Int):Option (Int×Int) :=
 If (x0==9) (
  some ((IntKind.wrap .i64 (0-x1)),0))<|
 If (x0==10) (
  Bi (kW (x1==0)) fun v2=>
  some (v2,0))<|
 some (0,1)
instance ab0{x0 x1}:MC (yz x0 x1) fun r=>bx prog 295 [.int .u8 x0,.I x1] (.gW [.I r.1,.I r.2]):=⟨fun hM=>by unfold yz at hM;exact pb func295 ntmps295⟩
@[reducible] noncomputable def ov(x1:aC)(o0:aJ)(v3:(List Int))(Kx:(List cr)×Int×(List aC)×(List Int)×Int×Int×(List Int)×(List Int)×Int×Int×Int×Bool×Int×Int):Option aJ :=
 wk [.z 10002]<|
 eT 64 (bA 8 oc) [(cq.mk Kx.2.2.2.2.2.2.2.2.2.2.2.2.1 x1.gA x1.gB Kx.2.2.2.2.2.2.2.2.2.2.2.2.2 0 0 false v3)] fun xw=>
 Ck (dL 80 (o0.aE.cZ.length+List.length xw))<|
 rX [(50000,65),(50001,10001)] (some (aJ.mk (bV.mk ({ o0.aE.bG with dW:=(aO.mk Kx.1) }:aL) (o0.aE.cZ++xw) Kx.2.1) Kx.2.2.1 (dV.mk Kx.2.2.2.1 Kx.2.2.2.2.1 o0.bX.aR Kx.2.2.2.2.2.1 Kx.2.2.2.2.2.2.1) Kx.2.2.2.2.2.2.2.1 Kx.2.2.2.2.2.2.2.2.1 Kx.2.2.2.2.2.2.2.2.2.1 Kx.2.2.2.2.2.2.2.2.2.2.1 Kx.2.2.2.2.2.2.2.2.2.2.2.1))
noncomputable def nV(x1:aC)(o0:aJ):Option aJ :=
 If (o0.nI==8) (
  rX [(50000,100003),(50001,100005)] (some ({ o0 with nJ:=true }:aJ)))<|
 Ck (eN (o0.cy.length) (IntKind.wrap .i64 ((o0.cy.length:Int)-x1.gN)) (o0.cy.length:Int))<|
 Bi (cl 39 [(100000,100005),(50000,39)] (iY (Int.toNat (IntKind.wrap .i64 ((o0.cy.length:Int)-x1.gN))) (Int.toNat ((o0.cy.length:Int)-(IntKind.wrap .i64 ((o0.cy.length:Int)-x1.gN)))) o0.cy)) fun v3=>
 Ck (eN (o0.cy.length) 0 (IntKind.wrap .i64 ((o0.cy.length:Int)-x1.gN)))<|
 jn (ov x1 o0 v3) 7 [100000,100001,100002,100003,100004,100005] [0,5] [100001,100002,100003,100004] i2 (fun s t=>(5,some (.bC 279 [.int .u8 s.2.2.2.2.2.2.2.2.2.2.2.2.1,.I x1.gA,.I x1.gB,.I s.2.2.2.2.2.2.2.2.2.2.2.2.2,.I 0,.I 0,.bool false,.row 10002]))::(10001,some (.R 2 1 (DV.int .i64) s.2.2.2.2.2.2.2.1))::(10002,some (.R 2 1 (DV.int .i64) v3))::(100000,some (.bC 361 (aJ.b0 (aJ.mk (bV.mk (aL.mk [] [] (aO.mk s.1)) [] s.2.1) s.2.2.1 (dV.mk s.2.2.2.1 s.2.2.2.2.1 [] s.2.2.2.2.2.1 s.2.2.2.2.2.2.1) [] s.2.2.2.2.2.2.2.2.1 s.2.2.2.2.2.2.2.2.2.1 s.2.2.2.2.2.2.2.2.2.2.1 s.2.2.2.2.2.2.2.2.2.2.2.1) (.row 100001) (.row 100002) (.row 100003) (.row 100004) (.row 10001))))::t)<|
 If (x1.cU==31) (
  Bi (cl 54 [(100005,47),(50000,10003)] (dU ({ o0 with cy:=(List.take (Int.toNat (IntKind.wrap .i64 ((o0.cy.length:Int)-x1.gN))) o0.cy),nI:=(IntKind.wrap .i64 (o0.nI+1)) }:aJ))) fun uG=>
  nX [] [(10001,10003),(10002,39)] (ov x1 o0 v3 (uG.2.aE.bG.dW.aW,uG.2.aE.jT,uG.2.cE,uG.2.bX.bR,uG.2.bX.BK,uG.2.bX.dW,uG.2.bX.xb,uG.2.cy,uG.2.sF,uG.2.nI,uG.2.dh,uG.2.nJ,2,uG.1)))<|
 nX [] [(10001,47),(10002,39)] (ov x1 o0 v3 (o0.aE.bG.dW.aW,o0.aE.jT,o0.cE,o0.bX.bR,o0.bX.BK,o0.bX.dW,o0.bX.xb,(List.take (Int.toNat (IntKind.wrap .i64 ((o0.cy.length:Int)-x1.gN))) o0.cy),o0.sF,(IntKind.wrap .i64 (o0.nI+1)),o0.dh,o0.nJ,1,0))
instance Na{x1 o0}:MA (nV x1 o0) prog 297 (fun _=>8) fun r=>⟨[.ref 100000 0,.agg (Br x1)],[(100000,some (.bC 361 (aJ.b0 o0 (.row 100001) (.row 100002) (.row 100003) (.row 100004) (.row 100005)))),(100001,some (.R 2 1 (DV.int .i64) o0.aE.bG.ez)),(100002,some (.R 150 1 jm o0.aE.bG.cX)),(100003,some (.R 279 8 oc o0.aE.cZ)),(100004,some (.R 4 1 DV.bool o0.bX.aR)),(100005,some (.R 2 1 (DV.int .i64) o0.cy))],.gW [],[(100000,some (.bC 361 (aJ.b0 r (.row 100001) (.row 100002) (.row 50000) (.row 100004) (.row 50001)))),(100001,some (.R 2 1 (DV.int .i64) r.aE.bG.ez)),(100002,some (.R 150 1 jm r.aE.bG.cX)),(100004,some (.R 4 1 DV.bool r.bX.aR)),(50000,some (.R 279 8 oc r.aE.cZ)),(50001,some (.R 2 1 (DV.int .i64) r.cy)),(100003,none),(100005,none)],[50000,50001]⟩:=⟨fun hM=>by unfold nV at hM;exact ae func297 ntmps297⟩
noncomputable def qI(x0:Int):Option Bool :=
 some (x0 != x0)
instance QI{x0}:MC (qI x0) fun r=>bx prog 373 [.I x0] (.bool r):=⟨fun hM=>by unfold qI at hM;exact pb func373 ntmps373⟩
noncomputable def iH(x0:List Int)(x1:Int):Option (Int×Bool) :=
 wL (E:=Int) (0,(x0.length:Int)) [] [0,1,6] [] (fun s t=>(7,.I s.1)::(8,.I s.2)::t) i2 [] [] (fun s3=>
  If (decide (s3.1<s3.2)) (
   Bi (idx x0 (IntKind.wrap .i64 (Int.fdiv (IntKind.wrap .u64 (IntKind.wrap .i64 (s3.1+s3.2))) (2^min (Int.toNat 1) (IntKind.bits .u64))))) fun v5=>
   Bi (tR v5 x1) fun v7=>
   If v7 (
    nX [] [] (some (.next ((IntKind.wrap .i64 ((IntKind.wrap .i64 (Int.fdiv (IntKind.wrap .u64 (IntKind.wrap .i64 (s3.1+s3.2))) (2^min (Int.toNat 1) (IntKind.bits .u64))))+1)),s3.2))))<|
   nX [] [] (some (.next (s3.1,(IntKind.wrap .i64 (Int.fdiv (IntKind.wrap .u64 (IntKind.wrap .i64 (s3.1+s3.2))) (2^min (Int.toNat 1) (IntKind.bits .u64))))))))<|
  some (.done s3.1)) fun GD=>
 Bi (gb (decide (GD<(x0.length:Int))) 0 (idx x0 GD)) fun v9=>
 Bi (gb ((decide (GD<(x0.length:Int))) && !(v9==x1)) 0 (idx x0 GD)) fun v11=>
 Bi (gb ((decide (GD<(x0.length:Int))) && !(v9==x1)) (false) (qI v11)) fun mU=>
 Bi (gb (((decide (GD<(x0.length:Int))) && !(v9==x1))&&mU) (false) (qI x1)) fun qs=>
 some (GD,((decide (GD<(x0.length:Int)))&&((v9==x1)||(mU&&qs))))
instance Ft{x0 x1}:MC (iH x0 x1) fun r=>bx prog 338 [.L 1 (DV.int .i64) x0,.I x1] (.gW [.I r.1,.bool r.2]):=⟨fun hM=>by unfold iH at hM;exact pb func338 ntmps338⟩
noncomputable def rV(x0:Int):Option Bool :=
 some (x0 != x0)
instance Tf{x0}:MC (rV x0) fun r=>bx prog 394 [.I x0] (.bool r):=⟨fun hM=>by unfold rV at hM;exact pb func394 ntmps394⟩
noncomputable def qe(x0:Int)(x1:Int):Option Int :=
 Bi (rV x0) fun v2=>
 Bi (rV x1) fun v4=>
 If v2 (
  If v4 (
   some 0)<|
  some (-1))<|
 If v4 (
  some 1)<|
 If (decide (x0<x1)) (
  some (-1))<|
 If (decide (x1<x0)) (
  some 1)<|
 some 0
instance Qc{x0 x1}:MC (qe x0 x1) fun r=>bx prog 389 [.I x0,.I x1] (.I r):=⟨fun hM=>by unfold qe at hM;exact pb func389 ntmps389⟩
noncomputable def lV(x0:cr)(x1:Int):Option Int :=
 Bi (qe x0.aeW x1) fun v2=>
 some v2
instance Nx{x0 x1}:MC (lV x0 x1) fun r=>bx prog 388 [.agg (Wx x0),.I x1] (.I r):=⟨fun hM=>by unfold lV at hM;exact pb func388 ntmps388⟩
noncomputable def ec(x0:List cr)(x1:Int):Option (Int×Bool) :=
 wL (E:=Int) (0,(x0.length:Int)) [] [0,1,2,8] [] (fun s t=>(9,.I s.1)::(10,.I s.2)::t) i2 [] [] (fun s3=>
  If (decide (s3.1<s3.2)) (
   Bi (idx x0 (IntKind.wrap .i64 (Int.fdiv (IntKind.wrap .u64 (IntKind.wrap .i64 (s3.1+s3.2))) (2^min (Int.toNat 1) (IntKind.bits .u64))))) fun v5=>
   Bi (lV v5 x1) fun v7=>
   If (decide (v7<0)) (
    nX [] [] (some (.next ((IntKind.wrap .i64 ((IntKind.wrap .i64 (Int.fdiv (IntKind.wrap .u64 (IntKind.wrap .i64 (s3.1+s3.2))) (2^min (Int.toNat 1) (IntKind.bits .u64))))+1)),s3.2))))<|
   nX [] [] (some (.next (s3.1,(IntKind.wrap .i64 (Int.fdiv (IntKind.wrap .u64 (IntKind.wrap .i64 (s3.1+s3.2))) (2^min (Int.toNat 1) (IntKind.bits .u64))))))))<|
  some (.done s3.1)) fun e12=>
 Bi (gb (decide (e12<(x0.length:Int))) (cr.mk 0 0) (idx x0 e12)) fun v9=>
 Bi (gb (decide (e12<(x0.length:Int))) (0) (lV v9 x1)) fun v11=>
 rX [] (some (e12,((decide (e12<(x0.length:Int)))&&(v11==0))))
instance wK{x0 x1}:MA (ec x0 x1) prog 387 (fun _=>0) fun r=>⟨[.L 2 uI x0,.I x1,.val (.func (.func 388) #[] #[])],[],.gW [.I r.1,.bool r.2],[],[]⟩:=⟨fun hM=>by unfold ec at hM;exact ab func387 ntmps387⟩
noncomputable def jY(x0:aO)(x1:Int):Option (Int×Bool) :=
 Bi (cl 9 [] (ec x0.aW x1)) fun v2=>
 some (v2.1,v2.2)
instance Qx{x0 x1}:MC (jY x0 x1) fun r=>bx prog 375 [.agg (Bo x0),.I x1] (.gW [.I r.1,.bool r.2]):=⟨fun hM=>by unfold jY at hM;exact pb func375 ntmps375⟩
noncomputable def ib(x0:aO)(x1:Int):Option (Int×Bool) :=
 Bi (jY x0 x1) fun v2=>
 If (!v2.2) (
  some (0,false))<|
 Bi (idx x0.aW v2.1) fun v4=>
 some (v4.LH,true)
instance RY{x0 x1}:MC (ib x0 x1) fun r=>bx prog 340 [.agg (Bo x0),.I x1] (.gW [.I r.1,.bool r.2]):=⟨fun hM=>by unfold ib at hM;exact pb func340 ntmps340⟩
noncomputable def pM(x0:aO):Option Int :=
 some (x0.aW.length:Int)
instance RX{x0}:MC (pM x0) fun r=>bx prog 341 [.agg (Bo x0)] (.I r):=⟨fun hM=>by unfold pM at hM;exact pb func341 ntmps341⟩
@[reducible] noncomputable def iB(s2:(List cr)):Option (List cr) :=
 rX [(50000,10001)] (some s2)
@[reducible] noncomputable def lL(x1:Int)(s5:Unit):Option (List cr) :=
 jn iB 3 [] [] [] (fun _ t=>(0,.row 10001)::t) (fun s t=>(10001,some (.R 561 2 uI s))::t)<|
 If (decide (0<(IntKind.wrap .i64 (x1-(IntKind.wrap .i64 (0-0)))))) (
  Ck (0<(IntKind.wrap .i64 (x1-(IntKind.wrap .i64 (0-0))))∧dL 16 (Int.toNat (IntKind.wrap .i64 (x1-(IntKind.wrap .i64 (0-0))))))<|
  eT 22 uI (cr.mk 0 0) fun _=>
  Ck (eN (List.length (List.replicate (Int.toNat (IntKind.wrap .i64 (x1-(IntKind.wrap .i64 (0-0))))) (cr.mk 0 0))) 0 0)<|
  nX [] [(10001,25)] (iB (List.take (Int.toNat 0) (List.replicate (Int.toNat (IntKind.wrap .i64 (x1-(IntKind.wrap .i64 (0-0))))) (cr.mk 0 0)))))<|
 nX [.r 0 10002 561 2] [(10001,10002)] (iB ([]:List cr))
noncomputable def fp(x1:Int):Option (List cr) :=
 jn (lL x1) 1 [] [0,1] [] i2 i2<|
 If (decide (x1<0)) (
  none)<|
 nX [] [] (lL x1 ())
instance Be{x1}:MA (fp x1) prog 390 (fun _=>1) fun r=>⟨[.bq,.I x1],[],.row 50000,[(50000,some (.R 561 2 uI r))],[50000]⟩:=⟨fun hM=>by unfold fp at hM;exact ab func390 ntmps390⟩
noncomputable def eF(x0:List (List cr)):Option (List cr) :=
 fL 0 11 [] [0,9,10] [] (fun s t=>(3,.I s)::t) i2 [] [] m64 (x0.length:Int) (fun k1 s3=>
  Bi (idx x0 (k1:Int)) fun mU=>
  If (decide ((IntKind.wrap .i64 (s3+(mU.length:Int)))<0)) (
   none)<|
  nX [] [] (some (IntKind.wrap .i64 (s3+(mU.length:Int))))) fun s3=>
 Bi (cl 24 [(50000,24)] (fp s3)) fun v5=>
 fL v5 27 [] [25,26] [] (fun _ t=>(6,.row 10001)::t) (fun s t=>(10001,some (.R 561 2 uI s))::t) [] [(10001,24)] m64 (x0.length:Int) (fun k6 s8=>
  Bi (idx x0 (k6:Int)) fun v10=>
  Ck (dL 16 (s8.length+List.length v10))<|
  nX [] [(10001,33)] (some (s8++v10))) fun s8=>
 rX [(50000,10001)] (some s8)
instance Bf{x0}:MA (eF x0) prog 376 (fun _=>1) fun r=>⟨[.L 1 (bA 2 uI) x0],[],.row 50000,[(50000,some (.R 561 2 uI r))],[50000]⟩:=⟨fun hM=>by unfold eF at hM;exact ab func376 ntmps376⟩
@[reducible] noncomputable def qY(x0:aO)(x1:Int)(x2:Int)(v2:Int×Bool)(Ji:(List cr)):Option aO :=
 Ck (eN (x0.aW.length) 0 v2.1)<|
 eT 42 (bA 2 uI) [(cr.mk x1 x2)] fun v8=>
 eT 44 (bA 1 (bA 2 uI)) [(List.take (Int.toNat v2.1) x0.aW),v8,Ji] fun v9=>
 Bi (cl 45 [(50000,45)] (eF v9)) fun v11=>
 wk [.z 45]<|some (aO.mk v11)
noncomputable def nF(x0:aO)(x1:Int)(x2:Int):Option aO :=
 Bi (jY x0 x1) fun v2=>
 Bi (gb v2.2 (cr.mk 0 0) (idx x0.aW v2.1)) fun v4=>
 If (v2.2&&(v4.LH==x2)) (
  some x0)<|
 Ck (eN (x0.aW.length) v2.1 (x0.aW.length))<|
 jn (qY x0 x1 x2 v2) 5 [] [1,2,3,6,7] [3,6] (fun s t=>(9,.L 2 uI s)::t) i2<|
 If v2.2 (
  Ck (eN (List.length (List.drop (Int.toNat v2.1) x0.aW)) 1 (List.length (List.drop (Int.toNat v2.1) x0.aW)))<|
  nX [] [] (qY x0 x1 x2 v2 (List.drop (Int.toNat 1) (List.drop (Int.toNat v2.1) x0.aW))))<|
 nX [] [] (qY x0 x1 x2 v2 (List.drop (Int.toNat v2.1) x0.aW))
instance RV{x0 x1 x2}:MC (nF x0 x1 x2) fun r=>bx prog 374 [.agg (Bo x0),.I x1,.I x2] (.agg (Bo r)):=⟨fun hM=>by unfold nF at hM;exact pbz func374 ntmps374 (wz [42,44])⟩
noncomputable def yA(x1:Int)(x2:Int)(o0:aJ):Option aJ :=
 Bi (ib o0.aE.bG.dW x1) fun v2=>
 Bi (gb (!v2.2) (0) (pM o0.aE.bG.dW)) fun v4=>
 If (v2.2||(decide (v4<16))) (
  Bi (nF o0.aE.bG.dW x1 x2) fun v6=>
  rX [] (some ({ o0 with aE:=({ o0.aE with bG:=({ o0.aE.bG with dW:=v6 }:aL) }:bV) }:aJ)))<|
 rX [] (some o0)
instance ab2{x1 x2 o0}:MA (yA x1 x2 o0) prog 339 (fun _=>6) fun r=>⟨[.ref 100000 2,.I x1,.I x2],[(100000,some (.bC 361 (aJ.b0 o0 (.row 100001) (.row 100002) (.row 100003) (.row 100004) (.row 100005)))),(100001,some (.R 2 1 (DV.int .i64) o0.aE.bG.ez)),(100002,some (.R 150 1 jm o0.aE.bG.cX)),(100003,some (.R 279 8 oc o0.aE.cZ)),(100004,some (.R 4 1 DV.bool o0.bX.aR)),(100005,some (.R 2 1 (DV.int .i64) o0.cy))],.gW [],[(100000,some (.bC 361 (aJ.b0 r (.row 100001) (.row 100002) (.row 100003) (.row 100004) (.row 100005)))),(100001,some (.R 2 1 (DV.int .i64) r.aE.bG.ez)),(100002,some (.R 150 1 jm r.aE.bG.cX)),(100003,some (.R 279 8 oc r.aE.cZ)),(100004,some (.R 4 1 DV.bool r.bX.aR)),(100005,some (.R 2 1 (DV.int .i64) r.cy))],[]⟩:=⟨fun hM=>by unfold yA at hM;exact ae func339 ntmps339⟩
@[reducible] noncomputable def kX(v2:Int×Bool)(a15:Int)(ob:Int×aJ)(Jg:(List Int)×(List aO)×(List cr)×(List cq)×Int×(List aC)×(List Int)×Int×(List Bool)×Int×(List Int)×(List Int)×Int×Int×Int×Bool×Int):Option aJ :=
 eT 97 (bA 8 oc) [(cq.mk a15 0 0 0 ob.1 Jg.2.2.2.2.2.2.2.2.2.2.2.2.2.2.2.2 v2.2 [])] fun Mv=>
 Ck (dL 80 (Jg.2.2.2.1.length+List.length Mv))<|
 rX [(50000,98),(50001,10003)] (some (aJ.mk (bV.mk (aL.mk Jg.1 Jg.2.1 (aO.mk Jg.2.2.1)) (Jg.2.2.2.1++Mv) Jg.2.2.2.2.1) Jg.2.2.2.2.2.1 (dV.mk Jg.2.2.2.2.2.2.1 Jg.2.2.2.2.2.2.2.1 Jg.2.2.2.2.2.2.2.2.1 Jg.2.2.2.2.2.2.2.2.2.1 Jg.2.2.2.2.2.2.2.2.2.2.1) Jg.2.2.2.2.2.2.2.2.2.2.2.1 Jg.2.2.2.2.2.2.2.2.2.2.2.2.1 Jg.2.2.2.2.2.2.2.2.2.2.2.2.2.1 Jg.2.2.2.2.2.2.2.2.2.2.2.2.2.2.1 Jg.2.2.2.2.2.2.2.2.2.2.2.2.2.2.2.1))
@[reducible] noncomputable def kY(x1:aC)(o0:aJ)(v2:Int×Bool)(Ik:(List cr)×Int×(List aC)×(List Int)×Int×Int×(List Int)×(List Int)×Int×Int×Int×Bool×Int×Int):Option aJ :=
 Bi (cl 43 [(100005,10001),(50000,10002)] (dU (aJ.mk (bV.mk ({ o0.aE.bG with dW:=(aO.mk Ik.1) }:aL) o0.aE.cZ Ik.2.1) Ik.2.2.1 (dV.mk Ik.2.2.2.1 Ik.2.2.2.2.1 o0.bX.aR Ik.2.2.2.2.2.1 Ik.2.2.2.2.2.2.1) Ik.2.2.2.2.2.2.2.1 Ik.2.2.2.2.2.2.2.2.1 Ik.2.2.2.2.2.2.2.2.2.1 Ik.2.2.2.2.2.2.2.2.2.2.1 Ik.2.2.2.2.2.2.2.2.2.2.2.1))) fun ob=>
 jn (kX v2 Ik.2.2.2.2.2.2.2.2.2.2.2.2.1 ob) 10009 [100000,100001,100002,100003,100004,100005] [0,6] [] i2 (fun s t=>(6,some (.bC 279 [.int .u8 Ik.2.2.2.2.2.2.2.2.2.2.2.2.1,.I 0,.I 0,.I 0,.I ob.1,.I s.2.2.2.2.2.2.2.2.2.2.2.2.2.2.2.2,.bool v2.2,.bq]))::(10003,some (.R 2 1 (DV.int .i64) s.2.2.2.2.2.2.2.2.2.2.2.1))::(100000,some (.bC 361 (aJ.b0 (aJ.mk (bV.mk (aL.mk [] [] (aO.mk s.2.2.1)) [] s.2.2.2.2.1) s.2.2.2.2.2.1 (dV.mk s.2.2.2.2.2.2.1 s.2.2.2.2.2.2.2.1 [] s.2.2.2.2.2.2.2.2.2.1 s.2.2.2.2.2.2.2.2.2.2.1) [] s.2.2.2.2.2.2.2.2.2.2.2.2.1 s.2.2.2.2.2.2.2.2.2.2.2.2.2.1 s.2.2.2.2.2.2.2.2.2.2.2.2.2.2.1 s.2.2.2.2.2.2.2.2.2.2.2.2.2.2.2.1) (.row 100001) (.row 100002) (.row 100003) (.row 100004) (.row 10003))))::(100001,some (.R 2 1 (DV.int .i64) s.1))::(100002,some (.R 150 1 jm s.2.1))::(100003,some (.R 279 8 oc s.2.2.2.1))::(100004,some (.R 4 1 DV.bool s.2.2.2.2.2.2.2.2.1))::t)<|
 If v2.2 (
  nX [] [(10003,10002)] (kX v2 Ik.2.2.2.2.2.2.2.2.2.2.2.2.1 ob (o0.aE.bG.ez,o0.aE.bG.cX,ob.2.aE.bG.dW.aW,o0.aE.cZ,ob.2.aE.jT,ob.2.cE,ob.2.bX.bR,ob.2.bX.BK,o0.bX.aR,ob.2.bX.dW,ob.2.bX.xb,ob.2.cy,x1.gB,ob.2.nI,ob.2.dh,ob.2.nJ,Ik.2.2.2.2.2.2.2.2.2.2.2.2.2)))<|
 If (x1.cU==32) (
  Bi (cl 89 [(100005,10002)] (yA ob.1 Ik.2.2.2.2.2.2.2.2.2.2.2.2.2 ({ ob.2 with aE:=(bV.mk ({ o0.aE.bG with dW:=ob.2.aE.bG.dW }:aL) o0.aE.cZ ob.2.aE.jT),bX:=({ ob.2.bX with aR:=o0.bX.aR }:dV) }:aJ))) fun v40=>
  nX [] [(10003,10002)] (kX v2 Ik.2.2.2.2.2.2.2.2.2.2.2.2.1 ob (v40.aE.bG.ez,v40.aE.bG.cX,v40.aE.bG.dW.aW,v40.aE.cZ,v40.aE.jT,v40.cE,v40.bX.bR,v40.bX.BK,v40.bX.aR,v40.bX.dW,v40.bX.xb,v40.cy,v40.sF,v40.nI,v40.dh,v40.nJ,Ik.2.2.2.2.2.2.2.2.2.2.2.2.2)))<|
 Bi (ib ob.2.aE.bG.dW ob.1) fun En=>
 Bi (idx o0.aE.bG.ez x1.gA) fun TM=>
 eT 68 (DV.int .i64) En.1 fun VI=>
 nX [] [(10003,10002)] (kX v2 Ik.2.2.2.2.2.2.2.2.2.2.2.2.1 ob ((List.set o0.aE.bG.ez (Int.toNat x1.gA) VI),o0.aE.bG.cX,ob.2.aE.bG.dW.aW,o0.aE.cZ,ob.2.aE.jT,ob.2.cE,ob.2.bX.bR,ob.2.bX.BK,o0.bX.aR,ob.2.bX.dW,ob.2.bX.xb,ob.2.cy,ob.2.sF,ob.2.nI,ob.2.dh,ob.2.nJ,En.1))
noncomputable def nW(x1:aC)(o0:aJ):Option aJ :=
 Bi (iH o0.bX.xb (IntKind.wrap .i64 (o0.bX.dW+o0.dh))) fun v2=>
 jn (kY x1 o0 v2) 4 [100000,100001,100002,100003,100004,100005] [0,3,5,6] [3,100001,100002,100003,100004] i2 (fun s t=>(6,some (.bC 279 [.int .u8 s.2.2.2.2.2.2.2.2.2.2.2.2.1,.I 0,.I 0,.I 0,.I 0,.I s.2.2.2.2.2.2.2.2.2.2.2.2.2,.bool v2.2,.bq]))::(10001,some (.R 2 1 (DV.int .i64) s.2.2.2.2.2.2.2.1))::(100000,some (.bC 361 (aJ.b0 (aJ.mk (bV.mk (aL.mk [] [] (aO.mk s.1)) [] s.2.1) s.2.2.1 (dV.mk s.2.2.2.1 s.2.2.2.2.1 [] s.2.2.2.2.2.1 s.2.2.2.2.2.2.1) [] s.2.2.2.2.2.2.2.2.1 s.2.2.2.2.2.2.2.2.2.1 s.2.2.2.2.2.2.2.2.2.2.1 s.2.2.2.2.2.2.2.2.2.2.2.1) (.row 100001) (.row 100002) (.row 100003) (.row 100004) (.row 10001))))::t)<|
 If (x1.cU==32) (
  Bi (cl 39 [(50000,10004)] (dU ({ o0 with dh:=(IntKind.wrap .i64 (o0.dh+1)) }:aJ))) fun Gb=>
  nX [] [(10001,10004)] (kY x1 o0 v2 (Gb.2.aE.bG.dW.aW,Gb.2.aE.jT,Gb.2.cE,Gb.2.bX.bR,Gb.2.bX.BK,Gb.2.bX.dW,Gb.2.bX.xb,Gb.2.cy,Gb.2.sF,Gb.2.nI,Gb.2.dh,Gb.2.nJ,3,Gb.1)))<|
 nX [] [(10001,100005)] (kY x1 o0 v2 (o0.aE.bG.dW.aW,o0.aE.jT,o0.cE,o0.bX.bR,o0.bX.BK,o0.bX.dW,o0.bX.xb,o0.cy,o0.sF,o0.nI,(IntKind.wrap .i64 (o0.dh+1)),o0.nJ,4,0))
instance Nc{x1 o0}:MA (nW x1 o0) prog 298 (fun _=>8) fun r=>⟨[.ref 100000 0,.agg (Br x1)],[(100000,some (.bC 361 (aJ.b0 o0 (.row 100001) (.row 100002) (.row 100003) (.row 100004) (.row 100005)))),(100001,some (.R 2 1 (DV.int .i64) o0.aE.bG.ez)),(100002,some (.R 150 1 jm o0.aE.bG.cX)),(100003,some (.R 279 8 oc o0.aE.cZ)),(100004,some (.R 4 1 DV.bool o0.bX.aR)),(100005,some (.R 2 1 (DV.int .i64) o0.cy))],.gW [],[(100000,some (.bC 361 (aJ.b0 r (.row 100001) (.row 100002) (.row 50000) (.row 100004) (.row 50001)))),(100001,some (.R 2 1 (DV.int .i64) r.aE.bG.ez)),(100002,some (.R 150 1 jm r.aE.bG.cX)),(100004,some (.R 4 1 DV.bool r.bX.aR)),(50000,some (.R 279 8 oc r.aE.cZ)),(50001,some (.R 2 1 (DV.int .i64) r.cy)),(100003,none),(100005,none)],[50000,50001]⟩:=⟨fun hM=>by unfold nW at hM;exact ae func298 ntmps298⟩
end Go.Proofs.YtpeihknododmlaaGreatDoor
