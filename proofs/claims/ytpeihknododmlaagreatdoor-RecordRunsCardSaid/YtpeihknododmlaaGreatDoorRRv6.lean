/- Part 6 of what the claim leans on. -/
import Derived.Test.YtpeihknododmlaaGreatDoorRRv5
set_option maxRecDepth 100000
set_option maxHeartbeats 4000000
set_option linter.unusedVariables false
set_option linter.unusedSimpArgs false
namespace Go.Proofs.YtpeihknododmlaaGreatDoor
open Go.Proofs.Tryz
open Go.RowKit
attribute [local irreducible] ik du bx iM oE dL eN iJ
structure eP where
 vV:Bool
 xa:Bool
 Hp:Int
 SM:Int
 OC:Bool
 LJ:Bool
def Wy(x:eP):List DV:=[.bool x.vV,.bool x.xa,.int .i64 x.Hp,.int .i64 x.SM,.bool x.OC,.bool x.LJ]
def eP.dv(x:eP):DV:=.agg (Wy x)
structure cF where
 ya:Int
 vV:Bool
 Dd:Int
 ew:ByteArray
def Ww(x:cF):List DV:=[.int .i64 x.ya,.bool x.vV,.int .i64 x.Dd,.str x.ew]
def cF.dv(x:cF):DV:=.agg (Ww x)
def tb5:List ByteArray:=[⟨#[97,102,116,101,114]⟩,⟨#[97,108,119,97,121,115]⟩,⟨#[97,110,100]⟩,⟨#[97,114,114,105,118,101,115]⟩,⟨#[98,111,111,108]⟩,⟨#[99,111,109,112,111,110,101,110,116]⟩,⟨#[99,111,117,110,116]⟩,⟨#[100,101,108,101,116,101]⟩,⟨#[100,111]⟩,⟨#[101,108,115,101]⟩,⟨#[101,120,105,115,116,115]⟩,⟨#[102,97,108,115,101]⟩,⟨#[102,101,116,99,104]⟩,⟨#[102,108,97,103]⟩,⟨#[102,108,101,101,116]⟩,⟨#[102,111,114,97,108,108]⟩,⟨#[104,97,115]⟩,⟨#[105,102]⟩,⟨#[105,109,112,108,105,101,115]⟩,⟨#[105,110]⟩,⟨#[105,110,116]⟩,⟨#[108,97,116,101,110,99,121]⟩,⟨#[108,105,110,107]⟩,⟨#[110,111,116]⟩,⟨#[110,111,119]⟩,⟨#[111,110]⟩,⟨#[111,110,99,101]⟩,⟨#[111,114]⟩,⟨#[112,114,101,118,105,111,117,115]⟩,⟨#[115,101,110,100]⟩,⟨#[115,105,110,99,101]⟩,⟨#[115,105,122,101]⟩,⟨#[115,116,111,112]⟩,⟨#[115,116,111,114,101]⟩,⟨#[116,97,98,108,101]⟩,⟨#[116,114,117,101]⟩,⟨#[118,97,114]⟩,⟨#[118,101,114,115,105,111,110]⟩,⟨#[119,104,105,108,101]⟩]
def tb2:List ByteArray:=[⟨#[46,46]⟩,⟨#[61,61]⟩,⟨#[33,61]⟩,⟨#[60,61]⟩,⟨#[62,61]⟩,⟨#[45,62]⟩,⟨#[123]⟩,⟨#[125]⟩,⟨#[40]⟩,⟨#[41]⟩,⟨#[91]⟩,⟨#[93]⟩,⟨#[44]⟩,⟨#[59]⟩,⟨#[58]⟩,⟨#[46]⟩,⟨#[61]⟩,⟨#[60]⟩,⟨#[62]⟩,⟨#[43]⟩,⟨#[45]⟩,⟨#[42]⟩,⟨#[47]⟩,⟨#[37]⟩,⟨#[95]⟩]
def tb3:List eP:=[(eP.mk false false 0 0 false false),(eP.mk true false 1 1 false false),(eP.mk true false 2 2 false false),(eP.mk true false 1 1 false false),(eP.mk false false 1 1 true true),(eP.mk false false 1 1 true false),(eP.mk true true 0 4 false false),(eP.mk false true 1 5 false false),(eP.mk false false 2 2 false true),(eP.mk true false 1 1 false true),(eP.mk false false 0 0 false false)]
instance:Tb 3 6 eP.dv tb3:=⟨by kernel_rfl,by kernel_rfl⟩
def tb6:List cF:=[(cF.mk 0 false 0 ByteArray.empty),(cF.mk 0 false 7 ByteArray.empty),(cF.mk 0 false 7 ⟨#[116,114,117,101]⟩),(cF.mk 0 false 7 ⟨#[102,97,108,115,101]⟩),(cF.mk 0 false 7 ⟨#[110,111,119]⟩),(cF.mk 0 true 7 ByteArray.empty),(cF.mk 1 true 7 ByteArray.empty),(cF.mk 1 true 7 ⟨#[104,97,115,32]⟩),(cF.mk 0 true 7 ⟨#[115,105,122,101,32]⟩),(cF.mk 1 false 6 ⟨#[45]⟩),(cF.mk 1 false 6 ⟨#[110,111,116,32]⟩),(cF.mk 2 false 5 ⟨#[32,42,32]⟩),(cF.mk 2 false 5 ⟨#[32,47,32]⟩),(cF.mk 2 false 5 ⟨#[32,37,32]⟩),(cF.mk 2 false 4 ⟨#[32,43,32]⟩),(cF.mk 2 false 4 ⟨#[32,45,32]⟩),(cF.mk 2 false 3 ⟨#[32,61,61,32]⟩),(cF.mk 2 false 3 ⟨#[32,33,61,32]⟩),(cF.mk 2 false 3 ⟨#[32,60,32]⟩),(cF.mk 2 false 3 ⟨#[32,60,61,32]⟩),(cF.mk 2 false 3 ⟨#[32,62,32]⟩),(cF.mk 2 false 3 ⟨#[32,62,61,32]⟩),(cF.mk 2 false 2 ⟨#[32,97,110,100,32]⟩),(cF.mk 2 false 1 ⟨#[32,111,114,32]⟩)]
instance:Tb 6 4 cF.dv tb6:=⟨by kernel_rfl,by kernel_rfl⟩
noncomputable def nN(sf_syntax_Statements:(List DV)→Option Int)(x0:List DV):Option Int :=
 fL (x0.length:Int) 9 [] [0,8] [] (fun s t=>(3,.I s)::t) i2 [] [] m64 (x0.length:Int) (fun k1 s3=>
  Bi (idx x0 (k1:Int)) fun v5=>
  Bi (bf.dec v5) fun v6=>
  Bi (sf_syntax_Statements v6.vW) fun v9=>
  Bi (sf_syntax_Statements v6.uU) fun v11=>
  nX [] [] (some (IntKind.wrap .i64 (s3+(IntKind.wrap .i64 (v9+v11)))))) fun s3=>
 some s3
theorem Cp{sf_syntax_Statements:(List DV)→Option Int}[ih_syntax_Statements:∀{x0},MC (sf_syntax_Statements x0) fun r=>bx prog 304 [.L 6 mh x0] (.I r)]{x0}:MC (nN sf_syntax_Statements x0) fun r=>bx prog 304 [.L 6 mh x0] (.I r):=⟨fun hM=>by unfold nN at hM;exact pb func304 ntmps304⟩
noncomputable def kO:Nat→(List DV)→Option Int
 |0,_=>none
 |fu+1,x0=>nN (kO fu) x0
instance PF(fu:Nat){x0}:MC (kO fu x0) fun r=>bx prog 304 [.L 6 mh x0] (.I r):=by
 induction fu generalizing x0 with
 |zero=>exact⟨fun h=>by cases h⟩
 |succ fu ih=>exact Cp (sf_syntax_Statements:=kO fu)
noncomputable def sX(sf_syntax_Depth:(List DV)→Option Int)(x0:List DV):Option Int :=
 If ((x0.length:Int)==0) (
  some 0)<|
 fL 0 10 [] [0,9] [] (fun s t=>(3,.I s)::t) i2 [] [] m64 (x0.length:Int) (fun k1 s3=>
  Bi (idx x0 (k1:Int)) fun v5=>
  Bi (bf.dec v5) fun v6=>
  Bi (sf_syntax_Depth v6.vW) fun v9=>
  Bi (sf_syntax_Depth v6.uU) fun v11=>
  nX [] [] (some (if v11>(if v9>s3 then v9 else s3)then v11 else(if v9>s3 then v9 else s3)))) fun s3=>
 some (IntKind.wrap .i64 (s3+1))
theorem GS{sf_syntax_Depth:(List DV)→Option Int}[ih_syntax_Depth:∀{x0},MC (sf_syntax_Depth x0) fun r=>bx prog 305 [.L 6 mh x0] (.I r)]{x0}:MC (sX sf_syntax_Depth x0) fun r=>bx prog 305 [.L 6 mh x0] (.I r):=⟨fun hM=>by unfold sX at hM;exact pb func305 ntmps305⟩
noncomputable def rk:Nat→(List DV)→Option Int
 |0,_=>none
 |fu+1,x0=>sX (rk fu) x0
instance Xg(fu:Nat){x0}:MC (rk fu x0) fun r=>bx prog 305 [.L 6 mh x0] (.I r):=by
 induction fu generalizing x0 with
 |zero=>exact⟨fun h=>by cases h⟩
 |succ fu ih=>exact GS (sf_syntax_Depth:=rk fu)
noncomputable def rj(sf_syntax_ExprDepth:aB→Option Int)(x0:aB):Option Int :=
 fL 0 8 [] [1,7] [1] (fun s t=>(3,.I s)::t) i2 [] [] m64 (x0.bR.length:Int) (fun k1 s3=>
  Bi (idx x0.bR (k1:Int)) fun v5=>
  Bi (aB.dec v5) fun v6=>
  Bi (sf_syntax_ExprDepth v6) fun v9=>
  nX [] [] (some (if v9>s3 then v9 else s3))) fun s3=>
 some (IntKind.wrap .i64 (s3+1))
theorem CS{sf_syntax_ExprDepth:aB→Option Int}[ih_syntax_ExprDepth:∀{x0},MC (sf_syntax_ExprDepth x0) fun r=>bx prog 307 [.agg (kH x0)] (.I r)]{x0}:MC (rj sf_syntax_ExprDepth x0) fun r=>bx prog 307 [.agg (kH x0)] (.I r):=⟨fun hM=>by unfold rj at hM;exact pb func307 ntmps307⟩
noncomputable def oG:Nat→aB→Option Int
 |0,_=>none
 |fu+1,x0=>rj (oG fu) x0
instance QH(fu:Nat){x0}:MC (oG fu x0) fun r=>bx prog 307 [.agg (kH x0)] (.I r):=by
 induction fu generalizing x0 with
 |zero=>exact⟨fun h=>by cases h⟩
 |succ fu ih=>exact CS (sf_syntax_ExprDepth:=oG fu)
noncomputable def jZ(x0:bf):Option Bool :=
 fO (E:=Bool) () 10 [] [8,9] [] i2 i2 [] [] m64 (x0.jV.length:Int) (fun k1 _=>
  Bi (idx x0.jV (k1:Int)) fun v4=>
  Bi (aB.dec v4) fun v5=>
  Bi ((oG 64) v5) fun v8=>
  If (decide (8<v8)) (
   rX [] (some (.done false)))<|
  nX [] [] (some (.next ()))) fun
  |.next _=>
   rX [] (some true)
  |.done r=>some r
instance HZ{x0}:MA (jZ x0) prog 306 (fun _=>0) fun r=>⟨[.jA (sP x0)],[],.bool r,[],[]⟩:=⟨fun hM=>by unfold jZ at hM;exact ab func306 ntmps306⟩
noncomputable def qG(sf_syntax_every_a:(List DV)→Option Bool)(x0:List DV):Option Bool :=
 fO (E:=Bool) () 9 [] [0,1,8] [] i2 i2 [] [] m64 (x0.length:Int) (fun k1 _=>
  Bi (idx x0 (k1:Int)) fun v4=>
  Bi (bf.dec v4) fun v5=>
  Bi (cl 17 [] (jZ v5)) fun v8=>
  Bi (gb (!(!v8)) (false) (cl 25 [] (sf_syntax_every_a v5.vW))) fun v10=>
  Bi (gb (!((!v8)||(!v10))) (false) (cl 34 [] (sf_syntax_every_a v5.uU))) fun v12=>
  If (((!v8)||(!v10))||(!v12)) (
   rX [] (some (.done false)))<|
  nX [] [] (some (.next ()))) fun
  |.next _=>
   rX [] (some true)
  |.done r=>some r
theorem EH{sf_syntax_every_a:(List DV)→Option Bool}[ih_syntax_every_a:∀{x0},MA (sf_syntax_every_a x0) prog 239 (fun _=>0) fun r=>⟨[.L 6 mh x0,.val (.func (.func 306) #[] #[])],[],.bool r,[],[]⟩]{x0}:MA (qG sf_syntax_every_a x0) prog 239 (fun _=>0) fun r=>⟨[.L 6 mh x0,.val (.func (.func 306) #[] #[])],[],.bool r,[],[]⟩:=⟨fun hM=>by unfold qG at hM;exact ab func239 ntmps239⟩
noncomputable def oT:Nat→(List DV)→Option Bool
 |0,_=>none
 |fu+1,x0=>qG (oT fu) x0
instance Uf(fu:Nat){x0}:MA (oT fu x0) prog 239 (fun _=>0) fun r=>⟨[.L 6 mh x0,.val (.func (.func 306) #[] #[])],[],.bool r,[],[]⟩:=by
 induction fu generalizing x0 with
 |zero=>exact⟨fun h=>by cases h⟩
 |succ fu ih=>exact EH (sf_syntax_every_a:=oT fu)
noncomputable def nK(x0:br):Option Bool :=
 Bi (gb (!(decide (4<(x0.dM.length:Int)))) (0) ((kO 64) x0.xc)) fun v2=>
 Bi (gb (!((decide (4<(x0.dM.length:Int)))||(decide (40<v2)))) (0) ((rk 64) x0.xc)) fun v4=>
 If (((decide (4<(x0.dM.length:Int)))||(decide (40<v2)))||(decide (8<v4))) (
  some false)<|
 Bi (cl 21 [] ((oT 64) x0.xc)) fun v6=>
 some v6
instance MH{x0}:MC (nK x0) fun r=>bx prog 236 [.agg (zX x0)] (.bool r):=⟨fun hM=>by unfold nK at hM;exact pb func236 ntmps236⟩
noncomputable def lI(x0:bj):Option Bool :=
 fO (E:=Bool) () 14 [] [1,12,13] [] i2 i2 [] [] m64 (x0.aF.length:Int) (fun k1 _=>
  Bi (idx x0.aF (k1:Int)) fun v4=>
  fO (E:=Bool) () 21 [] [1,12,13,14,19,20] [] i2 i2 [] [] m64 (v4.aX.length:Int) (fun k5 _=>
   Bi (idx v4.aX (k5:Int)) fun v8=>
   fO (E:=Bool) () 28 [] [1,12,13,14,19,20,21,26,27] [] i2 i2 [] [] m64 (v8.bP.length:Int) (fun k9 _=>
    Bi (idx v8.bP (k9:Int)) fun v12=>
    Bi (nK v12) fun qm=>
    If (!qm) (
     rX [] (some (.done false)))<|
    nX [] [] (some (.next ()))) fun
    |.next _=>
     nX [] [] (some (.next ()))
    |.done r=>some (.done r)) fun
   |.next _=>
    nX [] [] (some (.next ()))
   |.done r=>some (.done r)) fun
  |.next _=>
   rX [] (some true)
  |.done r=>some r
instance Ju{x0}:MA (lI x0) prog 235 (fun _=>0) fun r=>⟨[.agg (tX x0),.val (.func (.func 236) #[] #[])],[],.bool r,[],[]⟩:=⟨fun hM=>by unfold lI at hM;exact ab func235 ntmps235⟩
noncomputable def vt(x0:bj):Option Bool :=
 If (((((x0.aF.length:Int)==0)||(decide (8<(x0.aF.length:Int))))||(decide (8<(x0.aR.length:Int))))||(decide (64<(x0.fP.length:Int)))) (
  some false)<|
 fO (E:=Bool) () 36 [] [1,34,35] [1] i2 i2 [] [] m64 (x0.aF.length:Int) (fun k1 _=>
  Bi (idx x0.aF (k1:Int)) fun v6=>
  If (((decide (8<(v6.ez.length:Int)))||((v6.aX.length:Int)==0))||(decide (3<(v6.aX.length:Int)))) (
   some (.done false))<|
  mv (Oq DV.bool) []<|
  fL ([]:List (ByteArray×Bool)) 59 [] [1,34,35,36,57,58] [1] (fun _ t=>(7,.row 10001)::t) (fun s t=>(10001,some (.mp (Oq DV.bool s)))::t) [] [(10001,55)] m64 (v6.aX.length:Int) (fun k7 s9=>
   Bi (idx v6.aX (k7:Int)) fun v11=>
   fL s9 66 [] [1,34,35,36,57,58,59,64,65] [1] (fun _ t=>(7,.row 10002)::t) (fun s t=>(10002,some (.mp (Oq DV.bool s)))::t) [] [(10002,10001)] m64 (v11.bP.length:Int) (fun AH sw=>
    Bi (idx v11.bP (AH:Int)) fun pF=>
    eT 1 DV.bool true fun _=>
    nX [] [] (some (DN sw pF.bn true))) fun sw=>
   nX [] [(10001,10002)] (some sw)) fun s9=>
  If (decide (8<(s9.length:Int))) (
   some (.done false))<|
  nX [] [] (some (.next ()))) fun
  |.next _=>
   Bi (cl 80 [] (lI x0)) fun v4=>
   some v4
  |.done r=>some r
instance Xd{x0}:MC (vt x0) fun r=>bx prog 173 [.agg (tX x0)] (.bool r):=⟨fun hM=>by unfold vt at hM;exact pb func173 ntmps173⟩
noncomputable def xP(x0:Int):Option Bool :=
 some (((decide (97≤x0))&&(decide (x0≤122)))||((decide (65≤x0))&&(decide (x0≤90))))
instance Ya{x0}:MC (xP x0) fun r=>bx prog 345 [.int .u8 x0] (.bool r):=⟨fun hM=>by unfold xP at hM;exact pb func345 ntmps345⟩
noncomputable def wY(x0:Int):Option Bool :=
 some ((decide (48≤x0))&&(decide (x0≤57)))
instance aat{x0}:MC (wY x0) fun r=>bx prog 349 [.int .u8 x0] (.bool r):=⟨fun hM=>by unfold wY at hM;exact pb func349 ntmps349⟩
noncomputable def Aq(x0:Int):Option Bool :=
 Bi (xP x0) fun v2=>
 Bi (gb (!v2) (false) (wY x0)) fun v4=>
 some ((v2||v4)||(x0==95))
instance Yb{x0}:MC (Aq x0) fun r=>bx prog 347 [.int .u8 x0] (.bool r):=⟨fun hM=>by unfold Aq at hM;exact pb func347 ntmps347⟩
noncomputable def yv(x0:ByteArray):Option Int :=
 wL (E:=Int) 0 [] [0,1] [] (fun s t=>(5,.I s)::t) i2 [] [] (fun s2=>
  Bi (gb (decide (s2<(ByteArray.size x0:Int))) 0 (Ah x0 s2)) fun v4=>
  Bi (gb (decide (s2<(ByteArray.size x0:Int))) (false) (Aq v4)) fun v6=>
  If ((decide (s2<(ByteArray.size x0:Int)))&&v6) (
   nX [] [] (some (.next (IntKind.wrap .i64 (s2+1)))))<|
  some (.done s2)) fun e7=>
 rX [] (some e7)
instance UM{x0}:MA (yv x0) prog 346 (fun _=>0) fun r=>⟨[.str x0,.val (.func (.func 347) #[] #[])],[],.I r,[],[]⟩:=⟨fun hM=>by unfold yv at hM;exact ab func346 ntmps346⟩
noncomputable def zt(x0:ByteArray):Option Bool :=
 fO (E:=Bool) () 6 [] [0,5] [] i2 i2 [] [] m64 39 (fun k1 _=>
  Bi (idx tb5 (k1:Int)) fun v4=>
  eT 8 DV.str v4 fun _=>
  eb 8 tb5<|
  If (v4.toList==x0.toList) (
   some (.done true))<|
  nX [] [] (some (.next ()))) fun
  |.next _=>
   some false
  |.done r=>some r
instance We{x0}:MC (zt x0) fun r=>bx prog 348 [.str x0] (.bool r):=⟨fun hM=>by unfold zt at hM;exact pb func348 ntmps348⟩
noncomputable def xC(x0:ByteArray):Option Int :=
 wL (E:=Int) 0 [] [0,1] [] (fun s t=>(5,.I s)::t) i2 [] [] (fun s2=>
  Bi (gb (decide (s2<(ByteArray.size x0:Int))) 0 (Ah x0 s2)) fun v4=>
  Bi (gb (decide (s2<(ByteArray.size x0:Int))) (false) (wY v4)) fun v6=>
  If ((decide (s2<(ByteArray.size x0:Int)))&&v6) (
   nX [] [] (some (.next (IntKind.wrap .i64 (s2+1)))))<|
  some (.done s2)) fun e7=>
 rX [] (some e7)
instance SB{x0}:MA (xC x0) prog 346 (fun _=>0) fun r=>⟨[.str x0,.val (.func (.func 349) #[] #[])],[],.I r,[],[]⟩:=⟨fun hM=>by unfold xC at hM;exact ab func346 ntmps346⟩
noncomputable def mb(x0:ByteArray)(x1:ByteArray):Option Bool :=
 Ck ((decide ((ByteArray.size x1:Int)≤(ByteArray.size x0:Int)))=true→eN (ByteArray.size x0) 0 (ByteArray.size x1:Int))<|
 some ((decide ((ByteArray.size x1:Int)≤(ByteArray.size x0:Int)))&&((ByteArray.extract x0 (Int.toNat 0) (Int.toNat (ByteArray.size x1:Int))).toList==x1.toList))
instance DT{x0 x1}:MC (mb x0 x1) fun r=>bx prog 377 [.str x0,.str x1] (.bool r):=⟨fun hM=>by unfold mb at hM;exact pb func377 ntmps377⟩
noncomputable def vw(x0:ByteArray)(x1:ByteArray):Option Bool :=
 Bi (mb x0 x1) fun v2=>
 some v2
instance PI{x0 x1}:MC (vw x0 x1) fun r=>bx prog 350 [.str x0,.str x1] (.bool r):=⟨fun hM=>by unfold vw at hM;exact pb func350 ntmps350⟩
@[reducible] noncomputable def wQ(x0:ByteArray)(s1:Unit):Option (Int×Int) :=
 some (5,(ByteArray.size x0:Int))
noncomputable def CZ(x0:ByteArray):Option (Int×Int) :=
 jn (wQ x0) 1 [] [0] [] i2 i2<|
 Bi (Ah x0 0) fun v3=>
 Bi (xP v3) fun v5=>
 If v5 (
  Bi (cl 25 [] (yv x0)) fun v7=>
  Ck (eN (ByteArray.size x0) 0 v7)<|
  Bi (zt (ByteArray.extract x0 (Int.toNat 0) (Int.toNat v7))) fun v10=>
  If v10 (
   some (2,v7))<|
  If (decide (v7≤12)) (
   some (1,v7))<|
  nX [] [] (wQ x0 ()))<|
 Bi (wY v3) fun v12=>
 If v12 (
  Bi (cl 38 [] (xC x0)) fun qm=>
  If ((qm==1)||(v3 != 48)) (
   some (3,qm))<|
  nX [] [] (wQ x0 ()))<|
 fO (E:=Int×Int) () 12 [] [0,11] [] i2 i2 [] [] m64 25 (fun k15 _=>
  Bi (idx tb2 (k15:Int)) fun ob=>
  eT 14 DV.str ob fun _=>
  eb 14 tb2<|
  Bi (vw x0 ob) fun v20=>
  If v20 (
   some (.done (4,(ByteArray.size ob:Int))))<|
  nX [] [] (some (.next ()))) fun
  |.next _=>
   nX [] [] (wQ x0 ())
  |.done r=>some r
instance abL{x0}:MC (CZ x0) fun r=>bx prog 308 [.str x0] (.gW [.int .u8 r.1,.I r.2]):=⟨fun hM=>by unfold CZ at hM;exact pb func308 ntmps308⟩
noncomputable def cP(x0:ByteArray):Option Bool :=
 If (x0.toList==ByteArray.empty.toList) (
  some false)<|
 Bi (CZ x0) fun v2=>
 some ((v2.1==1)&&(v2.2==(ByteArray.size x0:Int)))
instance Yc{x0}:MC (cP x0) fun r=>bx prog 237 [.str x0] (.bool r):=⟨fun hM=>by unfold cP at hM;exact pb func237 ntmps237⟩
noncomputable def kg(x0:Int):Option (eP×Bool) :=
 If ((decide (x0<1))||(decide (10<x0))) (
  some ((eP.mk false false 0 0 false false),false))<|
 Bi (idx tb3 x0) fun v2=>
 some (v2,true)
instance KZ{x0}:MC (kg x0) fun r=>bx prog 309 [.int .u8 x0] (.gW [.agg (Wy r.1),.bool r.2]):=⟨fun hM=>by unfold kg at hM;exact pb func309 ntmps309⟩
noncomputable def lu(x0:Int):Option (cF×Bool) :=
 If ((decide (x0<1))||(decide (23<x0))) (
  some ((cF.mk 0 false 0 ByteArray.empty),false))<|
 Bi (idx tb6 x0) fun v2=>
 some (v2,true)
instance Se{x0}:MC (lu x0) fun r=>bx prog 352 [.int .u8 x0] (.gW [.agg (Ww r.1),.bool r.2]):=⟨fun hM=>by unfold lu at hM;exact pb func352 ntmps352⟩
noncomputable def oS(x0:aB):Option Bool :=
 Bi (lu x0.cU) fun v2=>
 Bi (gb (!(!v2.1.vV)) (false) (cP x0.bn)) fun v4=>
 rX [] (some ((!v2.1.vV)||v4))
instance NF{x0}:MA (oS x0) prog 311 (fun _=>0) fun r=>⟨[.jA (kH x0)],[],.bool r,[],[]⟩:=⟨fun hM=>by unfold oS at hM;exact ab func311 ntmps311⟩
noncomputable def pV(sf_syntax_everyExpr_a:aB→Option Bool)(x0:aB):Option Bool :=
 Bi (cl 8 [] (oS x0)) fun v2=>
 If (!v2) (
  rX [] (some false))<|
 fO (E:=Bool) () 15 [] [0,1,14] [] i2 i2 [] [] m64 (x0.bR.length:Int) (fun k3 _=>
  Bi (idx x0.bR (k3:Int)) fun v6=>
  Bi (aB.dec v6) fun v7=>
  Bi (cl 25 [] (sf_syntax_everyExpr_a v7)) fun v10=>
  If (!v10) (
   rX [] (some (.done false)))<|
  nX [] [] (some (.next ()))) fun
  |.next _=>
   rX [] (some true)
  |.done r=>some r
theorem Bz{sf_syntax_everyExpr_a:aB→Option Bool}[ih_syntax_everyExpr_a:∀{x0},MA (sf_syntax_everyExpr_a x0) prog 351 (fun _=>0) fun r=>⟨[.jA (kH x0),.val (.func (.func 311) #[] #[])],[],.bool r,[],[]⟩]{x0}:MA (pV sf_syntax_everyExpr_a x0) prog 351 (fun _=>0) fun r=>⟨[.jA (kH x0),.val (.func (.func 311) #[] #[])],[],.bool r,[],[]⟩:=⟨fun hM=>by unfold pV at hM;exact ab func351 ntmps351⟩
noncomputable def lW:Nat→aB→Option Bool
 |0,_=>none
 |fu+1,x0=>pV (lW fu) x0
instance NG(fu:Nat){x0}:MA (lW fu x0) prog 351 (fun _=>0) fun r=>⟨[.jA (kH x0),.val (.func (.func 311) #[] #[])],[],.bool r,[],[]⟩:=by
 induction fu generalizing x0 with
 |zero=>exact⟨fun h=>by cases h⟩
 |succ fu ih=>exact Bz (sf_syntax_everyExpr_a:=lW fu)
noncomputable def rN(x0:bf):Option Bool :=
 fO (E:=Bool) () 11 [] [0,1,10] [] i2 i2 [] [] m64 (x0.jV.length:Int) (fun k1 _=>
  Bi (idx x0.jV (k1:Int)) fun v4=>
  Bi (aB.dec v4) fun v5=>
  Bi (cl 21 [] ((lW 64) v5)) fun v8=>
  If (!v8) (
   rX [] (some (.done false)))<|
  nX [] [] (some (.next ()))) fun
  |.next _=>
   rX [] (some true)
  |.done r=>some r
instance RZ{x0}:MA (rN x0) prog 310 (fun _=>0) fun r=>⟨[.jA (sP x0),.val (.func (.func 311) #[] #[])],[],.bool r,[],[]⟩:=⟨fun hM=>by unfold rN at hM;exact ab func310 ntmps310⟩
noncomputable def oQ(x0:bf):Option Bool :=
 Bi (kg x0.bw) fun v2=>
 Bi (gb v2.1.vV (false) (cP x0.bn)) fun v4=>
 Bi (gb ((!(v2.1.vV&&(!v4)))&&v2.1.xa) (false) (cP x0.bM)) fun v6=>
 If ((v2.1.vV&&(!v4))||(v2.1.xa&&(!v6))) (
  rX [] (some false))<|
 Bi (cl 36 [] (rN x0)) fun v8=>
 rX [] (some v8)
instance ND{x0}:MA (oQ x0) prog 240 (fun _=>0) fun r=>⟨[.jA (sP x0)],[],.bool r,[],[]⟩:=⟨fun hM=>by unfold oQ at hM;exact ab func240 ntmps240⟩
noncomputable def pU(sf_syntax_every_a1:(List DV)→Option Bool)(x0:List DV):Option Bool :=
 fO (E:=Bool) () 9 [] [0,1,8] [] i2 i2 [] [] m64 (x0.length:Int) (fun k1 _=>
  Bi (idx x0 (k1:Int)) fun v4=>
  Bi (bf.dec v4) fun v5=>
  Bi (cl 17 [] (oQ v5)) fun v8=>
  Bi (gb (!(!v8)) (false) (cl 25 [] (sf_syntax_every_a1 v5.vW))) fun v10=>
  Bi (gb (!((!v8)||(!v10))) (false) (cl 34 [] (sf_syntax_every_a1 v5.uU))) fun v12=>
  If (((!v8)||(!v10))||(!v12)) (
   rX [] (some (.done false)))<|
  nX [] [] (some (.next ()))) fun
  |.next _=>
   rX [] (some true)
  |.done r=>some r
theorem DA{sf_syntax_every_a1:(List DV)→Option Bool}[ih_syntax_every_a1:∀{x0},MA (sf_syntax_every_a1 x0) prog 239 (fun _=>0) fun r=>⟨[.L 6 mh x0,.val (.func (.func 240) #[] #[])],[],.bool r,[],[]⟩]{x0}:MA (pU sf_syntax_every_a1 x0) prog 239 (fun _=>0) fun r=>⟨[.L 6 mh x0,.val (.func (.func 240) #[] #[])],[],.bool r,[],[]⟩:=⟨fun hM=>by unfold pU at hM;exact ab func239 ntmps239⟩
noncomputable def nH:Nat→(List DV)→Option Bool
 |0,_=>none
 |fu+1,x0=>pU (nH fu) x0
instance Sc(fu:Nat){x0}:MA (nH fu x0) prog 239 (fun _=>0) fun r=>⟨[.L 6 mh x0,.val (.func (.func 240) #[] #[])],[],.bool r,[],[]⟩:=by
 induction fu generalizing x0 with
 |zero=>exact⟨fun h=>by cases h⟩
 |succ fu ih=>exact DA (sf_syntax_every_a1:=nH fu)
noncomputable def sW(x0:br):Option Bool :=
 Bi (cP x0.bn) fun v2=>
 fL v2 12 [] [1,10,11] [1] (fun s t=>(3,.bool s)::t) i2 [] [] m64 (x0.dM.length:Int) (fun k3 s5=>
  Bi (idx x0.dM (k3:Int)) fun v9=>
  Bi (gb s5 (false) (cP v9)) fun v11=>
  nX [] [] (some (s5&&v11))) fun s5=>
 Bi (gb s5 (false) (cl 26 [] ((nH 64) x0.xc))) fun v7=>
 some (s5&&v7)
instance Ue{x0}:MC (sW x0) fun r=>bx prog 238 [.agg (zX x0)] (.bool r):=⟨fun hM=>by unfold sW at hM;exact pb func238 ntmps238⟩
noncomputable def kN(x0:bj):Option Bool :=
 fO (E:=Bool) () 14 [] [1,12,13] [] i2 i2 [] [] m64 (x0.aF.length:Int) (fun k1 _=>
  Bi (idx x0.aF (k1:Int)) fun v4=>
  fO (E:=Bool) () 21 [] [1,12,13,14,19,20] [] i2 i2 [] [] m64 (v4.aX.length:Int) (fun k5 _=>
   Bi (idx v4.aX (k5:Int)) fun v8=>
   fO (E:=Bool) () 28 [] [1,12,13,14,19,20,21,26,27] [] i2 i2 [] [] m64 (v8.bP.length:Int) (fun k9 _=>
    Bi (idx v8.bP (k9:Int)) fun v12=>
    Bi (sW v12) fun qm=>
    If (!qm) (
     rX [] (some (.done false)))<|
    nX [] [] (some (.next ()))) fun
    |.next _=>
     nX [] [] (some (.next ()))
    |.done r=>some (.done r)) fun
   |.next _=>
    nX [] [] (some (.next ()))
   |.done r=>some (.done r)) fun
  |.next _=>
   rX [] (some true)
  |.done r=>some r
instance Iv{x0}:MA (kN x0) prog 235 (fun _=>0) fun r=>⟨[.agg (tX x0),.val (.func (.func 238) #[] #[])],[],.bool r,[],[]⟩:=⟨fun hM=>by unfold kN at hM;exact ab func235 ntmps235⟩
noncomputable def vu(x0:bj):Option Bool :=
 Bi (cP x0.bn) fun v2=>
 fL v2 18 [] [1,16,17] [1] (fun s t=>(3,.bool s)::t) i2 [] [] m64 (x0.aR.length:Int) (fun k3 s5=>
  Bi (idx x0.aR (k3:Int)) fun Bh=>
  Bi (gb s5 (false) (cP Bh.bn)) fun Kw=>
  nX [] [] (some (s5&&Kw))) fun s5=>
 fL s5 32 [] [1,30,31] [1] (fun s t=>(3,.bool s)::t) i2 [] [] m64 (x0.fP.length:Int) (fun k6 s8=>
  Bi (idx x0.fP (k6:Int)) fun yN=>
  Bi (gb s8 (false) (cP yN.gS)) fun v28=>
  Bi (gb (s8&&v28) (false) (cP yN.uS)) fun v30=>
  nX [] [] (some ((s8&&v28)&&v30))) fun s8=>
 fL s8 51 [] [1,49,50] [1] (fun s t=>(3,.bool s)::t) i2 [] [] m64 (x0.aF.length:Int) (fun k9 sx=>
  Bi (idx x0.aF (k9:Int)) fun qs=>
  Bi (gb sx (false) (cP qs.bn)) fun qt=>
  fL (sx&&qt) 64 [] [1,49,50,51,62,63] [1] (fun s t=>(3,.bool s)::t) i2 [] [] m64 (qs.ez.length:Int) (fun k18 Cn=>
   Bi (idx qs.ez (k18:Int)) fun vX=>
   Bi (gb Cn (false) (cP vX.bn)) fun v24=>
   nX [] [] (some (Cn&&v24))) fun Cn=>
  nX [] [] (some Cn)) fun sx=>
 Bi (gb sx (false) (cl 79 [] (kN x0))) fun mU=>
 some (sx&&mU)
instance Xe{x0}:MC (vu x0) fun r=>bx prog 174 [.agg (tX x0)] (.bool r):=⟨fun hM=>by unfold vu at hM;exact pb func174 ntmps174⟩
noncomputable def tJ(x0:de):Option Bool :=
 If (x0.tu==1) (
  some (x0.uT != (-9223372036854775808)))<|
 If (x0.tu==2) (
  some ((x0.uT==0)||(x0.uT==1)))<|
 If (x0.tu==3) (
  some (x0.uT==0))<|
 some false
instance QE{x0}:MC (tJ x0) fun r=>bx prog 241 [.agg (KI x0)] (.bool r):=⟨fun hM=>by unfold tJ at hM;exact pb func241 ntmps241⟩
@[reducible] noncomputable def vv(x0:aB)(s3:Unit):Option Bool :=
 rX [] (some (x0.gN==0))
@[reducible] noncomputable def oh(x0:aB)(s5:Bool):Option Bool :=
 If s5 (
  rX [] (some false))<|
 If (x0.cU==1) (
  rX [] (some (decide (0≤x0.gN))))<|
 nX [] [] (vv x0 ())
noncomputable def nM(x0:aB):Option Bool :=
 Bi (lu x0.cU) fun v2=>
 jn (vv x0) 10002 [] [0] [] i2 i2<|
 jn (oh x0) 2 [] [0] [] (fun s t=>(13,.bool s)::t) i2<|
 If (!v2.2) (
  nX [] [] (oh x0 (!v2.2)))<|
 If ((x0.bR.length:Int) != v2.1.ya) (
  nX [] [] (oh x0 ((x0.bR.length:Int) != v2.1.ya)))<|
 nX [] [] (oh x0 ((!v2.1.vV)&&(!(x0.bn.toList==ByteArray.empty.toList))))
instance ML{x0}:MA (nM x0) prog 312 (fun _=>0) fun r=>⟨[.jA (kH x0)],[],.bool r,[],[]⟩:=⟨fun hM=>by unfold nM at hM;exact ab func312 ntmps312⟩
noncomputable def pA(sf_syntax_everyExpr_a1:aB→Option Bool)(x0:aB):Option Bool :=
 Bi (cl 8 [] (nM x0)) fun v2=>
 If (!v2) (
  rX [] (some false))<|
 fO (E:=Bool) () 15 [] [0,1,14] [] i2 i2 [] [] m64 (x0.bR.length:Int) (fun k3 _=>
  Bi (idx x0.bR (k3:Int)) fun v6=>
  Bi (aB.dec v6) fun v7=>
  Bi (cl 25 [] (sf_syntax_everyExpr_a1 v7)) fun v10=>
  If (!v10) (
   rX [] (some (.done false)))<|
  nX [] [] (some (.next ()))) fun
  |.next _=>
   rX [] (some true)
  |.done r=>some r
theorem AX{sf_syntax_everyExpr_a1:aB→Option Bool}[ih_syntax_everyExpr_a1:∀{x0},MA (sf_syntax_everyExpr_a1 x0) prog 351 (fun _=>0) fun r=>⟨[.jA (kH x0),.val (.func (.func 312) #[] #[])],[],.bool r,[],[]⟩]{x0}:MA (pA sf_syntax_everyExpr_a1 x0) prog 351 (fun _=>0) fun r=>⟨[.jA (kH x0),.val (.func (.func 312) #[] #[])],[],.bool r,[],[]⟩:=⟨fun hM=>by unfold pA at hM;exact ab func351 ntmps351⟩
noncomputable def lg:Nat→aB→Option Bool
 |0,_=>none
 |fu+1,x0=>pA (lg fu) x0
instance MM(fu:Nat){x0}:MA (lg fu x0) prog 351 (fun _=>0) fun r=>⟨[.jA (kH x0),.val (.func (.func 312) #[] #[])],[],.bool r,[],[]⟩:=by
 induction fu generalizing x0 with
 |zero=>exact⟨fun h=>by cases h⟩
 |succ fu ih=>exact AX (sf_syntax_everyExpr_a1:=lg fu)
noncomputable def qF(x0:bf):Option Bool :=
 fO (E:=Bool) () 11 [] [0,1,10] [] i2 i2 [] [] m64 (x0.jV.length:Int) (fun k1 _=>
  Bi (idx x0.jV (k1:Int)) fun v4=>
  Bi (aB.dec v4) fun v5=>
  Bi (cl 21 [] ((lg 64) v5)) fun v8=>
  If (!v8) (
   rX [] (some (.done false)))<|
  nX [] [] (some (.next ()))) fun
  |.next _=>
   rX [] (some true)
  |.done r=>some r
instance QD{x0}:MA (qF x0) prog 310 (fun _=>0) fun r=>⟨[.jA (sP x0),.val (.func (.func 312) #[] #[])],[],.bool r,[],[]⟩:=⟨fun hM=>by unfold qF at hM;exact ab func310 ntmps310⟩
@[reducible] noncomputable def qZ(x0:bf)(s5:Unit):Option Bool :=
 Bi (cl 75 [] (qF x0)) fun v4=>
 rX [] (some v4)
@[reducible] noncomputable def oe(x0:bf)(s9:Bool):Option Bool :=
 If s9 (
  rX [] (some false))<|
 nX [] [] (qZ x0 ())
@[reducible] noncomputable def og(x0:bf)(v2:eP×Bool)(wH:Bool):Option Bool :=
 If wH (
  rX [] (some false))<|
 jn (oe x0) 10 [] [0] [] (fun s t=>(51,.bool s)::t) i2<|
 If ((!v2.1.OC)&&(decide (0<(x0.vW.length:Int)))) (
  nX [] [] (oe x0 ((!v2.1.OC)&&(decide (0<(x0.vW.length:Int))))))<|
 nX [] [] (oe x0 ((!v2.1.LJ)&&(decide (0<(x0.uU.length:Int)))))
@[reducible] noncomputable def kL(x0:bf)(v2:eP×Bool)(sx:Bool):Option Bool :=
 If sx (
  rX [] (some false))<|
 jn (og x0 v2) 7 [] [0,3] [3] (fun s t=>(30,.bool s)::t) i2<|
 If ((!v2.1.vV)&&(!(x0.bn.toList==ByteArray.empty.toList))) (
  nX [] [] (og x0 v2 ((!v2.1.vV)&&(!(x0.bn.toList==ByteArray.empty.toList)))))<|
 nX [] [] (og x0 v2 ((!v2.1.xa)&&(!(x0.bM.toList==ByteArray.empty.toList))))
noncomputable def nL(x0:bf):Option Bool :=
 Bi (kg x0.bw) fun v2=>
 jn (qZ x0) 2 [] [0] [] i2 i2<|
 jn (kL x0 v2) 3 [] [0,3] [3] (fun s t=>(19,.bool s)::t) i2<|
 If (!v2.2) (
  nX [] [] (kL x0 v2 (!v2.2)))<|
 If (decide ((x0.jV.length:Int)<v2.1.Hp)) (
  nX [] [] (kL x0 v2 (decide ((x0.jV.length:Int)<v2.1.Hp))))<|
 nX [] [] (kL x0 v2 (decide (v2.1.SM<(x0.jV.length:Int))))
instance MJ{x0}:MA (nL x0) prog 243 (fun _=>0) fun r=>⟨[.jA (sP x0)],[],.bool r,[],[]⟩:=⟨fun hM=>by unfold nL at hM;exact ab func243 ntmps243⟩
noncomputable def pT(sf_syntax_every_a2:(List DV)→Option Bool)(x0:List DV):Option Bool :=
 fO (E:=Bool) () 9 [] [0,1,8] [] i2 i2 [] [] m64 (x0.length:Int) (fun k1 _=>
  Bi (idx x0 (k1:Int)) fun v4=>
  Bi (bf.dec v4) fun v5=>
  Bi (cl 17 [] (nL v5)) fun v8=>
  Bi (gb (!(!v8)) (false) (cl 25 [] (sf_syntax_every_a2 v5.vW))) fun v10=>
  Bi (gb (!((!v8)||(!v10))) (false) (cl 34 [] (sf_syntax_every_a2 v5.uU))) fun v12=>
  If (((!v8)||(!v10))||(!v12)) (
   rX [] (some (.done false)))<|
  nX [] [] (some (.next ()))) fun
  |.next _=>
   rX [] (some true)
  |.done r=>some r
theorem Dz{sf_syntax_every_a2:(List DV)→Option Bool}[ih_syntax_every_a2:∀{x0},MA (sf_syntax_every_a2 x0) prog 239 (fun _=>0) fun r=>⟨[.L 6 mh x0,.val (.func (.func 243) #[] #[])],[],.bool r,[],[]⟩]{x0}:MA (pT sf_syntax_every_a2 x0) prog 239 (fun _=>0) fun r=>⟨[.L 6 mh x0,.val (.func (.func 243) #[] #[])],[],.bool r,[],[]⟩:=⟨fun hM=>by unfold pT at hM;exact ab func239 ntmps239⟩
noncomputable def nG:Nat→(List DV)→Option Bool
 |0,_=>none
 |fu+1,x0=>pT (nG fu) x0
instance Sb(fu:Nat){x0}:MA (nG fu x0) prog 239 (fun _=>0) fun r=>⟨[.L 6 mh x0,.val (.func (.func 243) #[] #[])],[],.bool r,[],[]⟩:=by
 induction fu generalizing x0 with
 |zero=>exact⟨fun h=>by cases h⟩
 |succ fu ih=>exact Dz (sf_syntax_every_a2:=nG fu)
noncomputable def rO(x0:br):Option Bool :=
 Bi (cl 5 [] ((nG 64) x0.xc)) fun v2=>
 some v2
instance Sa{x0}:MC (rO x0) fun r=>bx prog 242 [.agg (zX x0)] (.bool r):=⟨fun hM=>by unfold rO at hM;exact pb func242 ntmps242⟩
noncomputable def kM(x0:bj):Option Bool :=
 fO (E:=Bool) () 14 [] [1,12,13] [] i2 i2 [] [] m64 (x0.aF.length:Int) (fun k1 _=>
  Bi (idx x0.aF (k1:Int)) fun v4=>
  fO (E:=Bool) () 21 [] [1,12,13,14,19,20] [] i2 i2 [] [] m64 (v4.aX.length:Int) (fun k5 _=>
   Bi (idx v4.aX (k5:Int)) fun v8=>
   fO (E:=Bool) () 28 [] [1,12,13,14,19,20,21,26,27] [] i2 i2 [] [] m64 (v8.bP.length:Int) (fun k9 _=>
    Bi (idx v8.bP (k9:Int)) fun v12=>
    Bi (rO v12) fun qm=>
    If (!qm) (
     rX [] (some (.done false)))<|
    nX [] [] (some (.next ()))) fun
    |.next _=>
     nX [] [] (some (.next ()))
    |.done r=>some (.done r)) fun
   |.next _=>
    nX [] [] (some (.next ()))
   |.done r=>some (.done r)) fun
  |.next _=>
   rX [] (some true)
  |.done r=>some r
instance Iu{x0}:MA (kM x0) prog 235 (fun _=>0) fun r=>⟨[.agg (tX x0),.val (.func (.func 242) #[] #[])],[],.bool r,[],[]⟩:=⟨fun hM=>by unfold kM at hM;exact ab func235 ntmps235⟩
noncomputable def uh(x0:bj):Option Bool :=
 fO (E:=Bool) () 12 [] [1,10,11] [1] i2 i2 [] [] m64 (x0.fP.length:Int) (fun k1 _=>
  Bi (idx x0.fP (k1:Int)) fun pF=>
  If ((decide (pF.qN<1))||(decide (50<pF.qN))) (
   some (.done false))<|
  nX [] [] (some (.next ()))) fun
  |.next _=>
   fO (E:=Bool) () 28 [] [1,26,27] [1] i2 i2 [] [] m64 (x0.aF.length:Int) (fun k3 _=>
    Bi (idx x0.aF (k3:Int)) fun v8=>
    fO (E:=Bool) () 35 [] [1,26,27,28,33,34] [1] i2 i2 [] [] m64 (v8.ez.length:Int) (fun k9 _=>
     Bi (idx v8.ez (k9:Int)) fun v12=>
     Bi (tJ v12) fun qm=>
     If (!qm) (
      some (.done false))<|
     nX [] [] (some (.next ()))) fun
     |.next _=>
      nX [] [] (some (.next ()))
     |.done r=>some (.done r)) fun
    |.next _=>
     Bi (cl 45 [] (kM x0)) fun v6=>
     some v6
    |.done r=>some r
  |.done r=>some r
instance VT{x0}:MC (uh x0) fun r=>bx prog 175 [.agg (tX x0)] (.bool r):=⟨fun hM=>by unfold uh at hM;exact pb func175 ntmps175⟩
noncomputable def rl(x0:bj):Option Int :=
 Bi (vt x0) fun v2=>
 If (!v2) (
  some 3)<|
 Bi (vu x0) fun v4=>
 If (!v4) (
  some 9)<|
 Bi (uh x0) fun v6=>
 If (!v6) (
  some 6)<|
 some 0
instance Xh{x0}:MC (rl x0) fun r=>bx prog 119 [.agg (tX x0)] (.I r):=⟨fun hM=>by unfold rl at hM;exact pb func119 ntmps119⟩
end Go.Proofs.YtpeihknododmlaaGreatDoor
namespace Go.Proofs.YtpeihknododmlaaGreatDoor
open Go.Proofs.Tryz
theorem ca{α:Type}{o:Option α}{v:α}(h:Wp o (· = v)):o=some v:=by obtain⟨_,e,rfl⟩:=h;exact e
theorem qB{α:Type}{o:Option α}{v:α}(h:o=some v):Wp o (· = v):=⟨v,h,rfl⟩
theorem gh{α β:Type}{c:Bool}{z:α}{o:Option α}{v:α}{f:α→Option β}{Q:β→Prop}(hc:c=true)(h:o=some v)(g:Wp (f v) Q):Wp (Bi (gb c z o) f) Q:=by
 subst hc;exact aA (x:=v) (by unfold gb;exact h) g
structure Fi(C:SN):Prop where
 i:C.I≤3
 t:C.T≤1
 f:C.F≤2
 p:C.Pn≤2
 al:C.gP.length≤3
 ar:∀r∈C.gP,r.length≤3
theorem LA{i:Nat}(h:i<3):cP (nm 120 i)=some true:=by
 match i,h with
 |0,_=>show cP (nm 120 0)=some true;kernel_rfl
 |1,_=>show cP (nm 120 1)=some true;kernel_rfl
 |2,_=>show cP (nm 120 2)=some true;kernel_rfl
theorem Re{i:Nat}(h:i<3):cP (nm 104 i)=some true:=by
 match i,h with
 |0,_=>show cP (nm 104 0)=some true;kernel_rfl
 |1,_=>show cP (nm 104 1)=some true;kernel_rfl
 |2,_=>show cP (nm 104 2)=some true;kernel_rfl
theorem XQ{i:Nat}(h:i<2):cP (nm 112 i)=some true:=by
 match i,h with
 |0,_=>show cP (nm 112 0)=some true;kernel_rfl
 |1,_=>show cP (nm 112 1)=some true;kernel_rfl
theorem XS{i:Nat}(h:i<2):cP (nm 102 i)=some true:=by
 match i,h with
 |0,_=>show cP (nm 102 0)=some true;kernel_rfl
 |1,_=>show cP (nm 102 1)=some true;kernel_rfl
theorem Rf:cP (nm 98 0)=some true:=by kernel_rfl
theorem ES:cP (nm 116 0)=some true:=by kernel_rfl
theorem Te{i:Nat}(h:i<3):cP (cn i)=some true:=by
 match i,h with
 |0,_=>show cP (cn 0)=some true;kernel_rfl
 |1,_=>show cP (cn 1)=some true;kernel_rfl
 |2,_=>show cP (cn 2)=some true;kernel_rfl
theorem ah5:cP ⟨#[102,108,101,101,116,49]⟩=some true:=by kernel_rfl
theorem op5{op:Int}(a:Int)(h:a≤op)(k:op≤a+5):op=a∨op=a+1∨op=a+2∨op=a+3∨op=a+4∨op=a+5:=by omega
def Uk(op:Int):cF:=(tb6[op.toNat]?).getD ⟨0,false,0,ByteArray.empty⟩
theorem Lb{op:Int}(h:1≤op∧op≤23):lu op=some (Uk op,true):=by
 unfold lu;refine ca (ak (fun hb=>?_) (fun _=>?_))
 ·simp at hb;omega
 ·obtain⟨j,rfl⟩:=Int.eq_ofNat_of_zero_le (show 0≤op by omega)
  have hj:j<tb6.length:=by show j<24;omega
  refine aA (gR _ _ |>.trans (List.getElem?_eq_getElem hj)) (ah ?_);unfold Uk;rw[Int.toNat_natCast,List.getElem?_eq_getElem hj];rfl
structure afc(op:Int)(s:ByteArray)(n:Int)(c:Nat):Prop where
 ops:(Uk op).ya=(c:Int)
 DL:((Uk op).vV=true∧cP s=some true)∨((Uk op).vV=false∧s=ByteArray.empty)
 lit:op=1→0≤n
 z:op≠1→n=0
theorem Sh.ok{C:SN}{t u:Bool}{op n:Int}{s:ByteArray}{c:Nat}(h:Sh C t op s n u c)(hC:Fi C):afc op s n c:=by
 have h1:=hC.i;have h2:=hC.t;have h3:=hC.f;have h4:=hC.p;cases h with
 |lit a b=>exact⟨rfl,.inr ⟨rfl,rfl⟩,fun _=>a,fun h=>absurd rfl h⟩
 |now=>exact⟨rfl,.inr ⟨rfl,rfl⟩,by decide,fun _=>rfl⟩
 |var a=>exact⟨rfl,.inl ⟨rfl,LA (by omega)⟩,by decide,fun _=>rfl⟩
 |par a=>exact⟨rfl,.inl ⟨rfl,XQ (by omega)⟩,by decide,fun _=>rfl⟩
 |get a=>exact⟨rfl,.inl ⟨rfl,ES⟩,by decide,fun _=>rfl⟩
 |size a=>exact⟨rfl,.inl ⟨rfl,ES⟩,by decide,fun _=>rfl⟩
 |neg=>exact⟨rfl,.inr ⟨rfl,rfl⟩,by decide,fun _=>rfl⟩
 |bin a b=>rcases op5 11 a (by omega)with rfl|rfl|rfl|rfl|rfl|rfl <;> first|exact⟨rfl,.inr ⟨rfl,rfl⟩,by decide,fun _=>rfl⟩ | omega
 |tf a b=>rcases op5 2 a (by omega)with rfl|rfl|rfl|rfl|rfl|rfl <;> first|exact⟨rfl,.inr ⟨rfl,rfl⟩,by decide,fun _=>rfl⟩ | omega
 |b0=>exact⟨rfl,.inl ⟨rfl,Rf⟩,by decide,fun _=>rfl⟩
 |flag a=>exact⟨rfl,.inl ⟨rfl,XS (by omega)⟩,by decide,fun _=>rfl⟩
 |has a=>exact⟨rfl,.inl ⟨rfl,ES⟩,by decide,fun _=>rfl⟩
 |not=>exact⟨rfl,.inr ⟨rfl,rfl⟩,by decide,fun _=>rfl⟩
 |con a b=>rcases op5 22 a (by omega)with rfl|rfl|rfl|rfl|rfl|rfl <;> first|exact⟨rfl,.inr ⟨rfl,rfl⟩,by decide,fun _=>rfl⟩ | omega
 |cmp a b=>rcases op5 16 a (by omega)with rfl|rfl|rfl|rfl|rfl|rfl <;> exact⟨rfl,.inr ⟨rfl,rfl⟩,by decide,fun _=>rfl⟩
theorem aeR{op n:Int}{s:ByteArray}{c:Nat}{l:List DV}(h:afc op s n c)(ho:1≤op∧op≤23):oS ⟨op,s,n,l⟩=some true:=by
 unfold oS;refine ca (aA (Lb ho) ?_);rcases h.DL with⟨a,b⟩|⟨a,b⟩
 ·exact gh (by dsimp only;rw[a];rfl) b (aI (ah (by simp)))
 ·exact au (P:=fun _=>True) (ia (fun h=>by dsimp only at h;rw[a]at h;cases h) (fun _=>trivial)) (fun v _=>aI (ah (by dsimp only;rw[a];rfl)))
theorem abW{op n:Int}{s:ByteArray}{c:Nat}{l:List DV}(h:afc op s n c)(ho:1≤op∧op≤23)(hl:l.length=c):nM ⟨op,s,n,l⟩=some true:=by
 unfold nM;have e2:((l.length:Int) != (Uk op).ya)=false:=by rw[h.ops,hl];simp
 have e3:((!(Uk op).vV)&&(!(s.toList==ByteArray.empty.toList)))=false:=by
  rcases h.DL with⟨a,b⟩|⟨a,b⟩
  ·rw[a];rfl
  ·rw[a,b];simp
 refine ca (aA (Lb ho) (cS (cS (ak (fun hb=>by cases hb) (fun _=>ak (fun hb=>?_) (fun _=>ax (ak (fun hb=>?_) (fun _=>ak (fun hb=>?_) (fun hb=>?_)))))))))
 ·dsimp only at hb;rw[e2]at hb;cases hb
 ·dsimp only at hb;rw[e3]at hb;cases hb
 ·exact aI (ah (by have:=h.lit (by simpa using hb);simpa using this))
 ·exact ax (aI (ah (by have:=h.z (by simpa using hb);simpa using this)))
theorem ah8{C:SN}:∀{d:Nat} {t:Bool} {x:DV},WE C Ct d t x→d≤8→∀{fu:Nat},d≤fu→∃e,aB.dec x=some e∧Wp (oG fu e) fun r=>0≤r∧r≤d:=by
 intro d t x h
 induction h with
 | @node d t u op n s c l sh hl _ ih=>
  intro hd fu hf;obtain⟨g,rfl⟩:∃g,fu=g+1:=⟨fu-1,by omega⟩;have hc:=sh.c2;refine⟨_,Bm _,?_⟩;unfold oG rj;refine cw (fun _ r=>0≤r∧r≤(d:Int)) (by unfold m64;dsimp only;omega) (by omega) ?_ ?_
  ·rintro j s hj ⟨s0,s1⟩
   refine bJ hj (fun a a1 a2=>?_);obtain⟨e,e1,e2⟩:=ih a a2 (by omega) (fu:=g) (by omega);refine aA e1 (au e2 ?_);rintro r ⟨r0,r1⟩;exact ax (ah (by split <;> omega))
  ·rintro s ⟨s0,s1⟩
   exact ah (by rw[wrap_i64 (by omega) (by omega)];omega)
theorem ah1{C:SN}(hC:Fi C):∀{d:Nat} {t:Bool} {x:DV},WE C Ct d t x→∀{fu:Nat},d≤fu→∃e,aB.dec x=some e∧lW fu e=some true:=by
 intro d t x h
 induction h with
 | @node d t u op n s c l sh hl _ ih=>
  intro fu hf;obtain⟨g,rfl⟩:∃g,fu=g+1:=⟨fu-1,by omega⟩;have hc:=sh.c2;refine⟨_,Bm _,?_⟩;unfold lW pV;refine ca (aA (by unfold cl;exact aeR (sh.ok hC) sh.op) (ak (fun hb=>by cases hb) (fun _=>?_)));refine eI (fun _ _=>True) (by unfold m64;dsimp only;omega) trivial ?_ (fun _ _=>aI (ah rfl));intro j s hj _;refine bJ hj (fun a a1 a2=>?_);obtain⟨e,e1,e2⟩:=ih a a2 (fu:=g) (by omega);exact aA e1 (aA (by unfold cl;exact e2) (ak (fun hb=>by cases hb) (fun _=>ax (ah trivial))))
theorem ah6{C:SN}(hC:Fi C):∀{d:Nat} {t:Bool} {x:DV},WE C Ct d t x→∀{fu:Nat},d≤fu→∃e,aB.dec x=some e∧lg fu e=some true:=by
 intro d t x h
 induction h with
 | @node d t u op n s c l sh hl _ ih=>
  intro fu hf;obtain⟨g,rfl⟩:∃g,fu=g+1:=⟨fu-1,by omega⟩;have hc:=sh.c2;refine⟨_,Bm _,?_⟩;unfold lg pA;refine ca (aA (by unfold cl;exact abW (sh.ok hC) sh.op hl) (ak (fun hb=>by cases hb) (fun _=>?_)));refine eI (fun _ _=>True) (by unfold m64;dsimp only;omega) trivial ?_ (fun _ _=>aI (ah rfl));intro j s hj _;refine bJ hj (fun a a1 a2=>?_);obtain⟨e,e1,e2⟩:=ih a a2 (fu:=g) (by omega);exact aA e1 (aA (by unfold cl;exact e2) (ak (fun hb=>by cases hb) (fun _=>ax (ah trivial))))
def JP(k:Int):eP:=(tb3[k.toNat]?).getD ⟨false,false,0,0,false,false⟩
theorem Yp{k:Int}(h:1≤k∧k≤10):kg k=some (JP k,true):=by
 unfold kg;refine ca (ak (fun hb=>?_) (fun _=>?_))
 ·simp at hb;omega
 ·obtain⟨j,rfl⟩:=Int.eq_ofNat_of_zero_le (show 0≤k by omega)
  have hj:j<tb3.length:=by show j<11;omega
  refine aA (gR _ _ |>.trans (List.getElem?_eq_getElem hj)) (ah ?_);unfold JP;rw[Int.toNat_natCast,List.getElem?_eq_getElem hj];rfl
structure afm(k:Int)(n h:ByteArray)(c:Nat)(p q:Bool):Prop where
 DL:((JP k).vV=true∧cP n=some true)∨((JP k).vV=false∧n=ByteArray.empty)
 UQ:((JP k).xa=true∧cP h=some true)∨((JP k).xa=false∧h=ByteArray.empty)
 lo:(JP k).Hp≤(c:Int)
 hi:(c:Int)≤(JP k).SM
 th:(JP k).OC=p
 el:(JP k).LJ=q
theorem Ss.ok{C:SN}{k:Int}{n h:ByteArray}{t:Bool}{c:Nat}{p q:Bool}(x:Ss C k n h t c p q)(hC:Fi C):afm k n h c p q:=by
 have h1:=hC.i;have h2:=hC.t;have h3:=hC.f;have h4:=hC.p;have h5:=hC.al;have h6:=hC.ar
 have rh:∀{i h:Nat} {r:List Int} {c:Int},C.gP[i]? = some r→r[h]? = some c→i<3∧h<3:=by
  intro i h r c a b;have:=(List.getElem?_eq_some_iff.1 a).1;have:=(List.getElem?_eq_some_iff.1 b).1;have:=h6 r (List.mem_of_getElem? a);omega
 cases x with
 |set a=>exact⟨.inl ⟨rfl,LA (by omega)⟩,.inr ⟨rfl,rfl⟩,by decide,by decide,rfl,rfl⟩
 |Ul=>exact⟨.inl ⟨rfl,Rf⟩,.inr ⟨rfl,rfl⟩,by decide,by decide,rfl,rfl⟩
 |put a=>exact⟨.inl ⟨rfl,ES⟩,.inr ⟨rfl,rfl⟩,by decide,by decide,rfl,rfl⟩
 |del a=>exact⟨.inl ⟨rfl,ES⟩,.inr ⟨rfl,rfl⟩,by decide,by decide,rfl,rfl⟩
 |iff=>exact⟨.inr ⟨rfl,rfl⟩,.inr ⟨rfl,rfl⟩,by decide,by decide,rfl,rfl⟩
 |whl=>exact⟨.inr ⟨rfl,rfl⟩,.inr ⟨rfl,rfl⟩,by decide,by decide,rfl,rfl⟩
 |send a b e=>
  obtain⟨y,z⟩:=rh a b;exact⟨.inl ⟨rfl,Te y⟩,.inl ⟨rfl,Re z⟩,show(0:Int)≤_ by omega,show _≤(4:Int) by omega,rfl,rfl⟩
 |aft a b e=>
  obtain⟨y,z⟩:=rh a b;exact⟨.inr ⟨rfl,rfl⟩,.inl ⟨rfl,Re z⟩,show(1:Int)≤_ by omega,show _≤(5:Int) by omega,rfl,rfl⟩
 |store=>exact⟨.inr ⟨rfl,rfl⟩,.inr ⟨rfl,rfl⟩,by decide,by decide,rfl,rfl⟩
 |JV a=>exact⟨.inl ⟨rfl,LA (by omega)⟩,.inr ⟨rfl,rfl⟩,by decide,by decide,rfl,rfl⟩
 |stop=>exact⟨.inr ⟨rfl,rfl⟩,.inr ⟨rfl,rfl⟩,by decide,by decide,rfl,rfl⟩
section
variable {C:SN} {t:Bool} {k:Int} {n h:ByteArray} {c:Nat} {p q:Bool} {l s z:List DV}
theorem aeo(hl:l.length≤3)(he:∀e∈l,WE C Ct 6 t e):jZ ⟨k,n,h,l,s,z⟩=some true:=by
 unfold jZ;refine ca (eI (fun _ _=>True) (by unfold m64;dsimp only;omega) trivial ?_ (fun _ _=>aI (ah rfl)));intro j _ hj _;refine bJ hj (fun a a1 a2=>?_);obtain⟨e,e1,e2⟩:=ah8 (he a a2) (by omega) (fu:=64) (by omega);refine aA e1 (au e2 ?_);rintro r ⟨r0,r1⟩;exact ak (fun hb=>by simp at hb;omega) (fun _=>ax (ah trivial))
theorem aeP(hC:Fi C)(hl:l.length≤3)(he:∀e∈l,WE C Ct 6 t e)(hf:afm k n h c p q)(hk:1≤k∧k≤10):oQ ⟨k,n,h,l,s,z⟩=some true:=by
 have hw:rN ⟨k,n,h,l,s,z⟩=some true:=by
  unfold rN;refine ca (eI (fun _ _=>True) (by unfold m64;dsimp only;omega) trivial ?_ (fun _ _=>aI (ah rfl)));intro j _ hj _;refine bJ hj (fun a a1 a2=>?_);obtain⟨e,e1,e2⟩:=ah1 hC (he a a2) (fu:=64) (by omega);exact aA e1 (aA (by unfold cl;exact e2) (ak (fun hb=>by cases hb) (fun _=>ax (ah trivial))))
 unfold oQ;refine ca (aA (Yp hk) ?_);refine au (P:=fun v=>((JP k).vV && !v)=false) (ia (fun h=>?_) (fun h=>?_)) (fun v4 h4=>?_)
 ·rcases hf.DL with⟨a,b⟩|⟨a,b⟩
  ·exact⟨true,b,by simp⟩
  ·dsimp only at h;rw[a]at h;cases h
 ·dsimp only at h;rw[h];rfl
 refine au (P:=fun v=>((JP k).xa && !v)=false) (ia (fun h=>?_) (fun h=>?_)) (fun v6 h6=>?_)
 ·rcases hf.UQ with⟨a,b⟩|⟨a,b⟩
  ·exact⟨true,b,by simp⟩
  ·dsimp only at h;rw[a]at h;simp at h
 ·dsimp only at h;rw[h4]at h;simp at h;rw[h];rfl
 refine ak (fun hb=>?_) (fun _=>aA (by unfold cl;exact hw) (aI (ah rfl)));dsimp only at hb;rw[h4,h6]at hb;cases hb
theorem abU(hC:Fi C)(hl:l.length≤3)(Pu:l.length=c)(he:∀e∈l,WE C Ct 6 t e)(hf:afm k n h c p q)(hk:1≤k∧k≤10)(hs:p=false→s = [])(hz:q=false→z = []):nL ⟨k,n,h,l,s,z⟩=some true:=by
 have hw:qF ⟨k,n,h,l,s,z⟩=some true:=by
  unfold qF;refine ca (eI (fun _ _=>True) (by unfold m64;dsimp only;omega) trivial ?_ (fun _ _=>aI (ah rfl)));intro j _ hj _;refine bJ hj (fun a a1 a2=>?_);obtain⟨e,e1,e2⟩:=ah6 hC (he a a2) (fu:=64) (by omega);exact aA e1 (aA (by unfold cl;exact e2) (ak (fun hb=>by cases hb) (fun _=>ax (ah trivial))))
 have f1:decide ((l.length:Int)<(JP k).Hp)=false:=by have:=hf.lo;simp;omega
 have f2:decide ((JP k).SM<(l.length:Int))=false:=by have:=hf.hi;simp;omega
 have f3:((!(JP k).vV)&&(!(n.toList==ByteArray.empty.toList)))=false:=by
  rcases hf.DL with⟨a,b⟩|⟨a,b⟩
  ·rw[a];rfl
  ·rw[a,b];simp
 have f4:((!(JP k).xa)&&(!(h.toList==ByteArray.empty.toList)))=false:=by
  rcases hf.UQ with⟨a,b⟩|⟨a,b⟩
  ·rw[a];rfl
  ·rw[a,b];simp
 have f5':((!(JP k).OC)&&(decide ((0:Int)<(s.length:Int))))=false:=by
  rw[hf.th];cases p with
  |true=>rfl
  |false=>rw[hs rfl];rfl
 have f6:((!(JP k).LJ)&&(decide ((0:Int)<(z.length:Int))))=false:=by
  rw[hf.el];cases q with
  |true=>rfl
  |false=>rw[hz rfl];rfl
 have fin:Wp (qZ ⟨k,n,h,l,s,z⟩ ()) (· = true):=aA (by unfold cl;exact hw) (aI (ah rfl));unfold nL
 have r4:∀b:Bool,b=false→Wp (oe ⟨k,n,h,l,s,z⟩ b) (· = true):=by
  rintro b rfl;exact ak (fun hb=>by cases hb) (fun _=>ax fin)
 have r3:∀b:Bool,b=false→Wp (og ⟨k,n,h,l,s,z⟩ (JP k,true) b) (· = true):=by
  rintro b rfl;exact ak (fun hb=>by cases hb) (fun _=>cS (ak (fun _=>ax (r4 _ f5')) (fun _=>ax (r4 _ f6))))
 have r2:∀b:Bool,b=false→Wp (kL ⟨k,n,h,l,s,z⟩ (JP k,true) b) (· = true):=by
  rintro b rfl;exact ak (fun hb=>by cases hb) (fun _=>cS (ak (fun _=>ax (r3 _ f3)) (fun _=>ax (r3 _ f4))))
 exact ca (aA (Yp hk) (cS (cS (ak (fun _=>ax (r2 _ rfl)) (fun _=>ak (fun _=>ax (r2 _ f1)) (fun _=>ax (r2 _ f2)))))))
end
theorem Ro{C:SN}(hC:Fi C):∀(d:Nat) {n:Nat} {l:List DV},WB C Ct Rc d n l→n≤12→∀{fu:Nat},d<fu→oT fu l=some true:=by
 intro d
 induction d with
 |zero=>
  rintro n l ⟨rfl,rfl⟩ _ fu hf;obtain⟨g,rfl⟩:∃g,fu=g+1:=⟨fu-1,by omega⟩;unfold oT qG;exact ca (eI (fun _ _=>True) (by unfold m64;simp) trivial (fun j _ hj _=>by simp at hj;omega) (fun _ _=>aI (ah rfl)))
 |succ d ih=>
  intro n l h hn fu hf;obtain⟨g,rfl⟩:∃g,fu=g+1:=⟨fu-1,by omega⟩;have hl:=h.len;unfold oT qG;refine ca (eI (fun _ _=>True) (by unfold m64;omega) trivial ?_ (fun _ _=>aI (ah rfl)));intro j _ hj _;refine bJ hj (fun x x1 x2=>?_);obtain⟨a,a1,hx⟩:=WL.get h x2;obtain⟨sh,Pu,he,hs,hz,hp,hq⟩:=hx;have hc3:=sh.c3;refine aA (zl _) (aA (by unfold cl;exact aeo (by omega) he) ?_);exact gh rfl (by unfold cl;exact ih hs (by omega) (by omega)) (gh rfl (by unfold cl;exact ih hz (by omega) (by omega)) (ak (fun hb=>by cases hb) (fun _=>ax (ah trivial))))
theorem OQ{C:SN}(hC:Fi C):∀(d:Nat) {n:Nat} {l:List DV},WB C Ct Rc d n l→n≤12→∀{fu:Nat},d<fu→nH fu l=some true:=by
 intro d
 induction d with
 |zero=>
  rintro n l ⟨rfl,rfl⟩ _ fu hf;obtain⟨g,rfl⟩:∃g,fu=g+1:=⟨fu-1,by omega⟩;unfold nH pU;exact ca (eI (fun _ _=>True) (by unfold m64;simp) trivial (fun j _ hj _=>by simp at hj;omega) (fun _ _=>aI (ah rfl)))
 |succ d ih=>
  intro n l h hn fu hf;obtain⟨g,rfl⟩:∃g,fu=g+1:=⟨fu-1,by omega⟩;have hl:=h.len;unfold nH pU;refine ca (eI (fun _ _=>True) (by unfold m64;omega) trivial ?_ (fun _ _=>aI (ah rfl)));intro j _ hj _;refine bJ hj (fun x x1 x2=>?_);obtain⟨a,a1,hx⟩:=WL.get h x2;obtain⟨sh,Pu,he,hs,hz,hp,hq⟩:=hx;have hc3:=sh.c3;refine aA (zl _) (aA (by unfold cl;exact aeP hC (by omega) he (sh.ok hC) sh.op) ?_);exact gh rfl (by unfold cl;exact ih hs (by omega) (by omega)) (gh rfl (by unfold cl;exact ih hz (by omega) (by omega)) (ak (fun hb=>by cases hb) (fun _=>ax (ah trivial))))
theorem OP{C:SN}(hC:Fi C):∀(d:Nat) {n:Nat} {l:List DV},WB C Ct Rc d n l→n≤12→∀{fu:Nat},d<fu→nG fu l=some true:=by
 intro d
 induction d with
 |zero=>
  rintro n l ⟨rfl,rfl⟩ _ fu hf;obtain⟨g,rfl⟩:∃g,fu=g+1:=⟨fu-1,by omega⟩;unfold nG pT;exact ca (eI (fun _ _=>True) (by unfold m64;simp) trivial (fun j _ hj _=>by simp at hj;omega) (fun _ _=>aI (ah rfl)))
 |succ d ih=>
  intro n l h hn fu hf;obtain⟨g,rfl⟩:∃g,fu=g+1:=⟨fu-1,by omega⟩;have hl:=h.len;unfold nG pT;refine ca (eI (fun _ _=>True) (by unfold m64;omega) trivial ?_ (fun _ _=>aI (ah rfl)));intro j _ hj _;refine bJ hj (fun x x1 x2=>?_);obtain⟨a,a1,hx⟩:=WL.get h x2;obtain⟨sh,Pu,he,hs,hz,hp,hq⟩:=hx;have hc3:=sh.c3;refine aA (zl _) (aA (by unfold cl;exact abU hC (by omega) Pu he (sh.ok hC) sh.op hp hq) ?_);exact gh rfl (by unfold cl;exact ih hs (by omega) (by omega)) (gh rfl (by unfold cl;exact ih hz (by omega) (by omega)) (ak (fun hb=>by cases hb) (fun _=>ax (ah trivial))))
theorem KL{S:Nat→DV→Prop}{n:Nat}{l:List DV}(h:WL S n l)(hS:∀n s,S n s→1≤n):∃f:Nat→Nat,f 0=0∧f l.length=n∧(∀j,j≤l.length→j≤f j∧f j≤n)∧∀(j:Nat) (x:DV),l[j]? = some x→∃a,f (j+1)=f j+a∧S a x:=by
 obtain⟨f,f0,f1,f2⟩:=h.split;refine⟨f,f0,f1,fun j hj=>⟨?_,?_⟩,f2⟩
 ·induction j with
  |zero=>omega
  |succ j ih=>
   obtain⟨a,a1,a2⟩:=f2 j _ (List.getElem?_eq_getElem (by omega));have:=hS _ _ a2;have:=ih (by omega);omega
 ·have up:∀m,m+j≤l.length→f j≤f (m+j):=by
   intro m
   induction m with
   |zero=>intro _;rw[Nat.zero_add];exact Nat.le_refl _
   |succ m ih=>
    intro hm;obtain⟨a,a1,a2⟩:=f2 (m+j) _ (List.getElem?_eq_getElem (by omega));have:=ih (by omega);have e:m+1+j=m+j+1:=by omega
    rw[e];omega
  have:=up (l.length-j) (by omega);rw[show l.length-j+j=l.length by omega,f1]at this;exact this
theorem Xk{C:SN}:∀(d:Nat) {n:Nat} {l:List DV},WB C Ct Rc d n l→n≤12→∀{fu:Nat},d<fu→kO fu l=some (n:Int):=by
 intro d
 induction d with
 |zero=>
  rintro n l ⟨rfl,rfl⟩ _ fu hf;obtain⟨g,rfl⟩:∃g,fu=g+1:=⟨fu-1,by omega⟩;unfold kO nN;exact ca (cw (fun _ s=>s=0) (by unfold m64;simp) rfl (fun j _ hj _=>by simp at hj;omega) (fun _ h=>ah h))
 |succ d ih=>
  intro n l h hn fu hf;obtain⟨g,rfl⟩:∃g,fu=g+1:=⟨fu-1,by omega⟩;have hl:=h.len;obtain⟨f,f0,f1,f2,f3⟩:=KL h (fun _ _=>WF.pos);unfold kO nN;refine ca (cw (fun j s=>s=(l.length:Int)+f j-j) (by unfold m64;omega) (by omega) ?_ ?_)
  ·intro j s hj hs
   refine bJ hj (fun x x1 x2=>?_);obtain⟨a,a1,hx⟩:=f3 j x x1;have b1:=f2 j (by omega);have b2:=f2 (j+1) (by omega);obtain⟨sh,Pu,he,hs,hz,hp,hq⟩:=hx;refine aA (zl _) (aA (ih hs (by omega) (by omega)) (aA (ih hz (by omega) (by omega)) (ax (ah ?_))));rw[IntKind.wrap_i64,IntKind.wrap_i64];omega
  ·intro s hs
   rw[Int.toNat_natCast,f1]at hs;exact ah (by omega)
theorem YD{C:SN}:∀(d:Nat) {n:Nat} {l:List DV},WB C Ct Rc d n l→n≤12→d≤8→∀{fu:Nat},d<fu→Wp (rk fu l) fun r=>0≤r∧r≤d:=by
 intro d
 induction d with
 |zero=>
  rintro n l ⟨rfl,rfl⟩ _ _ fu hf;obtain⟨g,rfl⟩:∃g,fu=g+1:=⟨fu-1,by omega⟩;unfold rk sX;exact ak (fun _=>ah (by omega)) (fun h=>by simp at h)
 |succ d ih=>
  intro n l h hn hd fu hf;obtain⟨g,rfl⟩:∃g,fu=g+1:=⟨fu-1,by omega⟩;have hl:=h.len;unfold rk sX;refine ak (fun _=>ah (by omega)) (fun _=>?_);refine cw (fun _ r=>0≤r∧r≤(d:Int)) (by unfold m64;omega) (by omega) ?_ ?_
  ·rintro j s hj ⟨s0,s1⟩
   refine bJ hj (fun x x1 x2=>?_);obtain⟨a,a1,hx⟩:=WL.get h x2;obtain⟨sh,Pu,he,hs,hz,hp,hq⟩:=hx;refine aA (zl _) (au (ih hs (by omega) (by omega) (by omega)) ?_);rintro r ⟨r0,r1⟩;refine au (ih hz (by omega) (by omega) (by omega)) ?_;rintro q ⟨q0,q1⟩;exact ax (ah (by split <;> split <;> omega))
  ·rintro s ⟨s0,s1⟩
   exact ah (by rw[wrap_i64 (by omega) (by omega)];omega)
theorem UK{V:Type}(xs:List (ByteArray×V))(k:ByteArray)(v:V):(DN xs k v).length≤xs.length+1:=by
 unfold DN
 split
 ·rw[List.length_set];omega
 ·simp
structure Cx5(I T F:Nat)(gP:List (List Int)):Prop where
 i3:I≤3
 t1:T≤1
 f2:F≤2
 al:gP.length≤3
 ar:∀r∈gP,r.length≤3
theorem Cx5.sn{I T F:Nat}{gP:List (List Int)}(h:Cx5 I T F gP){p own:Nat}(hp:p≤2):Fi ⟨I,T,F,p,gP,own⟩:=by
 obtain⟨a,b,c,d,e⟩:=h;exact⟨by dsimp only;omega,by dsimp only;omega,by dsimp only;omega,by dsimp only;omega,d,e⟩
theorem Dk.ctx{gP:List (List Int)}{f:bj}(h:Dk gP f){i I T:Nat}{r:List Int}{x:aM}(hx:Wl f.aR.length gP i I T r x):Cx5 I T f.aR.length gP:=⟨hx.i3,hx.t1,h.f2,by have:=h.al;have:=h.n3;omega,fun r hr=>(h.ar r hr).2.1⟩
theorem Dk.each{gP:List (List Int)}{f:bj}(h:Dk gP f){c:aM}(hc:c∈f.aF):∃i I T r,f.aF[i]? = some c∧Cx5 I T f.aR.length gP∧Wl f.aR.length gP i I T r c∧r.length≤3:=by
 obtain⟨i,hi,rfl⟩:=List.getElem_of_mem hc;obtain⟨I,T,r,g⟩:=h.cs i _ (List.getElem?_eq_getElem hi);exact⟨i,I,T,r,List.getElem?_eq_getElem hi,h.ctx g,g,(h.ar r (List.mem_of_getElem? g.ar)).2.1⟩
theorem aep{I T F:Nat}{gP:List (List Int)}{own k:Nat}{r:List Int}{x:br}(ctx:Cx5 I T F gP)(h:Ja I T F gP own r k x):nK x=some true:=by
 obtain⟨p,p2,rp,k3,DL,Gd,a,a12,hb⟩:=h;have hp:x.dM.length=p:=by rw[Gd];simp
 unfold nK;refine ca (gh (by simp;omega) (Xk 4 hb a12 (by omega)) ?_);refine au (ia (fun _=>YD 4 hb a12 (by omega) (by omega)) (fun h=>by simp at h;omega)) ?_;rintro v ⟨v0,v1⟩;refine ak (fun hb=>by simp at hb;omega) (fun _=>aA (by unfold cl;exact Ro (ctx.sn p2) 4 hb a12 (by omega)) (ah rfl))
theorem aeQ{I T F:Nat}{gP:List (List Int)}{own k:Nat}{r:List Int}{x:br}(ctx:Cx5 I T F gP)(h:Ja I T F gP own r k x):sW x=some true:=by
 obtain⟨p,p2,rp,k3,DL,Gd,a,a12,hb⟩:=h;have hp:x.dM.length=p:=by rw[Gd];simp
 unfold sW;refine ca (aA (by rw[DL];exact Re k3) ?_);refine cw (fun _ s=>s=true) (by unfold m64;omega) rfl ?_ ?_
 ·rintro j s hj rfl
  refine bJ hj (fun y y1 y2=>?_)
  have:cP y=some true:=by
   rw[Gd]at y2;obtain⟨i,hi,rfl⟩:=List.mem_map.1 y2;exact XQ (by have:=List.mem_range.1 hi;omega)
  exact gh rfl this (ax (ah rfl))
 ·rintro s rfl
  exact gh rfl (by unfold cl;exact OQ (ctx.sn p2) 4 hb a12 (by omega)) (ah rfl)
theorem abV{I T F:Nat}{gP:List (List Int)}{own k:Nat}{r:List Int}{x:br}(ctx:Cx5 I T F gP)(h:Ja I T F gP own r k x):rO x=some true:=by
 obtain⟨p,p2,rp,k3,DL,Gd,a,a12,hb⟩:=h;unfold rO;exact ca (aA (by unfold cl;exact OP (ctx.sn p2) 4 hb a12 (by omega)) (ah rfl))
theorem DZ{gP:List (List Int)}{f:bj}(h:Dk gP f):lI f=some true:=by
 have n3:=h.n3;unfold lI;refine ca (eI (fun _ _=>True) (by unfold m64;omega) trivial ?_ (fun _ _=>aI (ah rfl)));intro j _ hj _;refine bJ hj (fun c _ c2=>?_);obtain⟨i,I,T,r,c1,ctx,g,r3⟩:=h.each c2;have v2:=g.v2;refine eI (fun _ _=>True) (by unfold m64;omega) trivial ?_ (fun _ _=>ax (ah trivial));intro j _ hj _;refine bJ hj (fun u _ u2=>?_);have hu:=(g.h1 u u2).2;refine eI (fun _ _=>True) (by unfold m64;omega) trivial ?_ (fun _ _=>ax (ah trivial));intro j _ hj _;refine bJ hj (fun y y1 y2=>?_);exact aA (aep ctx (g.hs u u2 j y y1)) (ak (fun hb=>by cases hb) (fun _=>ax (ah trivial)))
theorem Df{gP:List (List Int)}{f:bj}(h:Dk gP f):kN f=some true:=by
 have n3:=h.n3;unfold kN;refine ca (eI (fun _ _=>True) (by unfold m64;omega) trivial ?_ (fun _ _=>aI (ah rfl)));intro j _ hj _;refine bJ hj (fun c _ c2=>?_);obtain⟨i,I,T,r,c1,ctx,g,r3⟩:=h.each c2;have v2:=g.v2;refine eI (fun _ _=>True) (by unfold m64;omega) trivial ?_ (fun _ _=>ax (ah trivial));intro j _ hj _;refine bJ hj (fun u _ u2=>?_);have hu:=(g.h1 u u2).2;refine eI (fun _ _=>True) (by unfold m64;omega) trivial ?_ (fun _ _=>ax (ah trivial));intro j _ hj _;refine bJ hj (fun y y1 y2=>?_);exact aA (aeQ ctx (g.hs u u2 j y y1)) (ak (fun hb=>by cases hb) (fun _=>ax (ah trivial)))
theorem De{gP:List (List Int)}{f:bj}(h:Dk gP f):kM f=some true:=by
 have n3:=h.n3;unfold kM;refine ca (eI (fun _ _=>True) (by unfold m64;omega) trivial ?_ (fun _ _=>aI (ah rfl)));intro j _ hj _;refine bJ hj (fun c _ c2=>?_);obtain⟨i,I,T,r,c1,ctx,g,r3⟩:=h.each c2;have v2:=g.v2;refine eI (fun _ _=>True) (by unfold m64;omega) trivial ?_ (fun _ _=>ax (ah trivial));intro j _ hj _;refine bJ hj (fun u _ u2=>?_);have hu:=(g.h1 u u2).2;refine eI (fun _ _=>True) (by unfold m64;omega) trivial ?_ (fun _ _=>ax (ah trivial));intro j _ hj _;refine bJ hj (fun y y1 y2=>?_);exact aA (abV ctx (g.hs u u2 j y y1)) (ak (fun hb=>by cases hb) (fun _=>ax (ah trivial)))
theorem Dk.JG{gP:List (List Int)}{f:bj}(h:Dk gP f):f.fP.length≤9∧∀l∈f.fP,∃a b:Nat,a<f.aF.length∧b<f.aF.length∧l.gS=cn a∧l.uS=cn b∧1≤l.qN∧l.qN≤3:=by
 obtain⟨ks,k1,k2,k3⟩:=h.lk;have n1:=h.n1;have n3:=h.n3;refine⟨?_,fun l hl=>?_⟩
 ·rw[k3,List.length_map,←List.length_map (f:=(·.1))]
  refine Lr 9 _ k1 (fun y hy=>?_);obtain⟨p,hp,rfl⟩:=List.mem_map.1 hy;have:=(k2 p hp).1;have h9:=Nat.mul_le_mul n3 n3;omega
 ·rw[k3]at hl
  obtain⟨p,hp,rfl⟩:=List.mem_map.1 hl;have:=k2 p hp;exact⟨_,_,Nat.div_lt_of_lt_mul this.1,Nat.mod_lt _ (by omega),rfl,rfl,this.2⟩
theorem Wl.Qu{F:Nat}{gP:List (List Int)}{i I T:Nat}{r:List Int}{x:aM}(h:Wl F gP i I T r x):x.ez.length=I+1+T:=by rw[h.vars];unfold vj;simp;omega
theorem Xn{gP:List (List Int)}{f:bj}(h:Dk gP f):vt f=some true:=by
 have n1:=h.n1;have n3:=h.n3;have f2:=h.f2;have l9:=h.JG.1;unfold vt;refine ca (ak (fun hb=>by simp only[Bool.or_eq_true,decide_eq_true_eq,beq_iff_eq]at hb;omega) (fun _=>?_));refine eI (fun _ _=>True) (by unfold m64;omega) trivial ?_ (fun _ _=>aA (by unfold cl;exact DZ h) (ah rfl));intro j _ hj _;refine bJ hj (fun c _ c2=>?_);obtain⟨i,I,T,r,c1,ctx,g,r3⟩:=h.each c2;have v1:=g.v1;have v2:=g.v2;have vl:=g.Qu;have i3:=g.i3;have t1:=g.t1;refine ak (fun hb=>by simp only[Bool.or_eq_true,decide_eq_true_eq,beq_iff_eq]at hb;omega) (fun _=>WN ?_);refine cw (fun j s=>s.length≤3*j) (by unfold m64;omega) (by simp) ?_ ?_
 ·intro j s hj hs
  refine bJ hj (fun u _ u2=>?_);have hu:=(g.h1 u u2).2;refine cw (fun k s=>s.length≤3*j+k) (by unfold m64;omega) (by omega) ?_ ?_
  ·intro k s hk hs
   refine bJ hk (fun y _ y2=>aV (ax (ah ?_)));have:=UK s y.bn true;omega
  ·intro s hs
   rw[Int.toNat_natCast]at hs;exact ax (ah (by omega))
 ·intro s hs
  rw[Int.toNat_natCast]at hs;exact ak (fun hb=>by simp at hb;omega) (fun _=>ax (ah trivial))
theorem zC{I T:Nat}{v:de}(h:v∈vj I T):(∃i,i<I∧v=⟨nm 120 i,1,(i:Int)⟩)∨v=⟨nm 98 0,2,0⟩∨(∃i,i<T∧v=⟨nm 116 i,3,0⟩):=by
 unfold vj at h;rcases List.mem_append.1 h with h|h
 ·rcases List.mem_append.1 h with h|h
  ·obtain⟨i,hi,rfl⟩:=List.mem_map.1 h
   exact .inl ⟨i,List.mem_range.1 hi,rfl⟩
  ·simp at h;exact .inr (.inl h)
 ·obtain⟨i,hi,rfl⟩:=List.mem_map.1 h
  exact .inr (.inr ⟨i,List.mem_range.1 hi,rfl⟩)
theorem XV{gP:List (List Int)}{f:bj}(h:Dk gP f):vu f=some true:=by
 have n3:=h.n3;have f2:=h.f2;have l9:=h.JG;unfold vu;refine ca (aA (by rw[h.name];exact ah5) ?_);refine cw (fun _ s=>s=true) (by unfold m64;omega) rfl ?_ ?_
 ·rintro j s hj rfl
  refine bJ hj (fun y y1 y2=>gh rfl ?_ (ax (ah rfl)));rw[h.fn j y y1];exact XS (by omega)
 rintro s rfl;refine cw (fun _ s=>s=true) (by unfold m64;omega) rfl ?_ ?_
 ·rintro j s hj rfl
  refine bJ hj (fun y y1 y2=>?_);obtain⟨a,b,ha,hb,e1,e2,_⟩:=l9.2 y y2;exact gh rfl (by rw[e1];exact Te (by omega)) (gh rfl (by rw[e2];exact Te (by omega)) (ax (ah rfl)))
 rintro s rfl;refine cw (fun _ s=>s=true) (by unfold m64;omega) rfl ?_ ?_
 ·rintro j s hj rfl
  refine bJ hj (fun c c1 c2=>?_);obtain⟨I,T,r,g⟩:=h.cs j c c1;have vl:=g.Qu;have i3:=g.i3;have t1:=g.t1;refine gh rfl (by rw[g.name];exact Te (by omega)) ?_;refine cw (fun _ s=>s=true) (by unfold m64;omega) rfl ?_ (fun s hs=>ax (ah hs));rintro k s hk rfl;refine bJ hk (fun y y1 y2=>gh rfl ?_ (ax (ah rfl)));rw[g.vars]at y2;rcases zC y2 with⟨i,hi,rfl⟩ | rfl|⟨i,hi,rfl⟩
  ·exact LA (by omega)
  ·exact Rf
  ·obtain rfl:i=0:=by omega
   exact ES
 rintro s rfl;exact gh rfl (by unfold cl;exact Df h) (ah rfl)
theorem UU{gP:List (List Int)}{f:bj}(h:Dk gP f):uh f=some true:=by
 have n3:=h.n3;have l9:=h.JG;unfold uh;refine ca (eI (fun _ _=>True) (by unfold m64;omega) trivial ?_ ?_)
 ·intro j _ hj _
  refine bJ hj (fun y y1 y2=>?_);obtain⟨a,b,ha,hb,e1,e2,e3,e4⟩:=l9.2 y y2;exact ak (fun hb=>by simp at hb;omega) (fun _=>ax (ah trivial))
 intro _ _;refine eI (fun _ _=>True) (by unfold m64;omega) trivial ?_ (fun _ _=>aA (by unfold cl;exact De h) (ah rfl));intro j _ hj _;refine bJ hj (fun c c1 c2=>?_);obtain⟨I,T,r,g⟩:=h.cs j c c1;have vl:=g.Qu;have i3:=g.i3;have t1:=g.t1;refine eI (fun _ _=>True) (by unfold m64;omega) trivial ?_ (fun _ _=>ax (ah trivial));intro k _ hk _;refine bJ hk (fun y y1 y2=>aA (x:=true) ?_ (ak (fun hb=>by cases hb) (fun _=>ax (ah trivial))));rw[g.vars]at y2;unfold tJ;rcases zC y2 with⟨i,hi,rfl⟩ | rfl|⟨i,hi,rfl⟩
 ·refine ca (ak (fun _=>ah ?_) (fun hb=>by cases hb))
  dsimp only;simp
 ·exact ca (ak (fun hb=>by cases hb) (fun _=>ak (fun _=>ah rfl) (fun hb=>by cases hb)))
 ·exact ca (ak (fun hb=>by cases hb) (fun _=>ak (fun hb=>by cases hb) (fun _=>ak (fun _=>ah rfl) (fun hb=>by cases hb))))
theorem HO{gP:List (List Int)}{f:bj}(h:Dk gP f):rl f=some 0:=by
 unfold rl;exact ca (aA (Xn h) (ak (fun hb=>by cases hb) (fun _=>aA (XV h) (ak (fun hb=>by cases hb) (fun _=>aA (UU h) (ak (fun hb=>by cases hb) (fun _=>ah rfl)))))))
open Go.RowKit
attribute [local irreducible] ik du bx iM oE dL eN iJ
structure oA where
 Yl:ByteArray
 bn:ByteArray
 FT:Int
def oA.cs(x:oA):List DV:=[.str x.Yl,.str x.bn,.int .i64 x.FT]
structure aG where
 fV:bj
 BI:ByteArray
 uJ:oA
def gU(x:aG):List DV:=[.str x.fV.bn,.sl 2 (List.map nC x.fV.aR),.sl 3 (List.map qA x.fV.fP),.sl 3 (List.map oK x.fV.aF),.str x.BI,.str x.uJ.Yl,.str x.uJ.bn,.int .i64 x.uJ.FT]
structure dD where
 dB:List cm
 iK:List de
 eH:List ByteArray
def zZ(x:dD):List DV:=[.sl 2 (List.map nC x.dB),.sl 3 (List.map xz x.iK),.sl 1 (List.map DV.str x.eH)]
structure dF where
 ah4:Unit
 ub:dD
 lQ:aM
 Dc:ByteArray
 wD:Int
def dF.b0(x:dF)(d0:DV):List DV:=[d0,.sl 2 (List.map nC x.ub.dB),.sl 3 (List.map xz x.ub.iK),.sl 1 (List.map DV.str x.ub.eH),.str x.lQ.bn,.sl 3 (List.map xz x.lQ.ez),.sl 1 (List.map vZ x.lQ.aX),.str x.Dc,.int .i64 x.wD]
@[reducible] noncomputable def pI(s2:aG):Option (Bool×aG) :=
 rX [] (some ((s2.uJ.FT==0),s2))
noncomputable def eK(x1:Int)(x2:ByteArray)(o0:aG):Option (Bool×aG) :=
 jn pI 1 [100000] [0] [] i2 (fun s t=>(100000,some (.bC 376 (gU s)))::t)<|
 If ((o0.uJ.FT==0)&&(x1 != 0)) (
  nX [] [] (pI ({ o0 with uJ:=(oA.mk o0.BI x2 x1) }:aG)))<|
 nX [] [] (pI o0)
instance Ip{x1 x2 o0}:MA (eK x1 x2 o0) prog 176 (fun _=>1) fun r=>⟨[.ref 100000 0,.I x1,.str x2],[(100000,some (.bC 376 (gU o0)))],.bool r.1,[(100000,some (.bC 376 (gU r.2)))],[]⟩:=⟨fun hM=>by unfold eK at hM;exact ab func176 ntmps176⟩
noncomputable def gj(x1:ByteArray)(o0:aG):Option (Bool×aG) :=
 rX [] (some ((o0.uJ.FT==0),({ o0 with BI:=x1 }:aG)))
instance Nw{x1 o0}:MA (gj x1 o0) prog 244 (fun _=>1) fun r=>⟨[.ref 100000 0,.str x1],[(100000,some (.bC 376 (gU o0)))],.bool r.1,[(100000,some (.bC 376 (gU r.2)))],[]⟩:=⟨fun hM=>by unfold gj at hM;exact ab func244 ntmps244⟩
noncomputable def vk(x0:cm)(o0:ByteArray):Option Bool :=
 rX [] (some (x0.bn.toList==o0.toList))
instance TW{x0 o0}:MA (vk x0 o0) prog 314 (fun _=>0) fun r=>⟨[.agg (Qn x0),.ref 100000 0],[(100000,some (.bC 9 [.str o0]))],.bool r,[(100000,some (.bC 9 [.str o0]))],[]⟩:=⟨fun hM=>by unfold vk at hM;exact ab func314 ntmps314⟩
noncomputable def fD(x0:List cm)(o0:ByteArray):Option Int :=
 fO (E:=Int) () 8 [100000] [0,1,7] [100000] i2 i2 [] [] m64 (x0.length:Int) (fun k1 _=>
  Bi (idx x0 (k1:Int)) fun v4=>
  Bi (cl 16 [] (vk v4 o0)) fun v6=>
  If v6 (
   rX [] (some (.done (k1:Int))))<|
  nX [] [] (some (.next ()))) fun
  |.next _=>
   rX [] (some (-1))
  |.done r=>some r
instance zE{x0 o0}:MA (fD x0 o0) prog 353 (fun _=>0) fun r=>⟨[.L 2 nC x0,.Dh 314 [.ref 100000 0]],[(100000,some (.bC 9 [.str o0]))],.I r,[(100000,some (.bC 9 [.str o0]))],[]⟩:=⟨fun hM=>by unfold fD at hM;exact ab func353 ntmps353⟩
noncomputable def fj(x0:List cm)(o0:ByteArray):Option Bool :=
 Bi (cl 7 [] (fD x0 o0)) fun v2=>
 rX [] (some (decide (0≤v2)))
instance yX{x0 o0}:MA (fj x0 o0) prog 313 (fun _=>0) fun r=>⟨[.L 2 nC x0,.Dh 314 [.ref 100000 0]],[(100000,some (.bC 9 [.str o0]))],.bool r,[(100000,some (.bC 9 [.str o0]))],[]⟩:=⟨fun hM=>by unfold fj at hM;exact ab func313 ntmps313⟩
noncomputable def oM(x0:List cm)(x1:ByteArray):Option Bool :=
 Bi (cl 7 [(100000,3)] (fj x0 x1)) fun v2=>
 some v2
instance aaX{x0 x1}:MC (oM x0 x1) fun r=>bx prog 246 [.L 2 nC x0,.str x1] (.bool r):=⟨fun hM=>by unfold oM at hM;exact pb func246 ntmps246⟩
@[reducible] noncomputable def pH(x3:ByteArray)(o0:aG)(s4:Int):Option (Bool×aG) :=
 Bi (cl 13 [] (eK s4 x3 o0)) fun v3=>
 rX [] (some (v3.1,v3.2))
noncomputable def cK(x1:Bool)(x2:Int)(x3:ByteArray)(o0:aG):Option (Bool×aG) :=
 jn (pH x3 o0) 1 [100000] [0,3] [100000] (fun s t=>(2,.I s)::t) i2<|
 If x1 (
  nX [] [] (pH x3 o0 0))<|
 nX [] [] (pH x3 o0 x2)
instance Io{x1 x2 x3 o0}:MA (cK x1 x2 x3 o0) prog 245 (fun _=>1) fun r=>⟨[.ref 100000 0,.bool x1,.I x2,.str x3],[(100000,some (.bC 376 (gU o0)))],.bool r.1,[(100000,some (.bC 376 (gU r.2)))],[]⟩:=⟨fun hM=>by unfold cK at hM;exact ab func245 ntmps245⟩
noncomputable def lH(o0:aG):Option aG :=
 fO (E:=aG) o0 10 [100000] [0,8,9] [] i2 (fun s t=>(100000,some (.bC 376 (gU s)))::t) [] [] m64 (o0.fV.aR.length:Int) (fun k1 s3=>
  Bi (idx o0.fV.aR (k1:Int)) fun v5=>
  Ck ((ByteArray.mk #[102,108,97,103,32]).size+v5.bn.size≤9223372036854775807)<|
  Bi (cl 19 [] (gj (⟨#[102,108,97,103,32]⟩++v5.bn) s3)) fun v8=>
  If (!v8.1) (
   rX [] (some (.done v8.2)))<|
  Ck (eN (v8.2.fV.aR.length) 0 (k1:Int))<|
  Bi (oM (List.take (Int.toNat (k1:Int)) v8.2.fV.aR) v5.bn) fun v11=>
  Bi (cl 35 [] (cK (!v11) 5 v5.bn v8.2)) fun mU=>
  nX [] [] (some (.next mU.2))) fun
  |.next s3=>
   rX [] (some s3)
  |.done r=>some r
instance Jl{o0}:MA (lH o0) prog 177 (fun _=>1) fun r=>⟨[.ref 100000 0],[(100000,some (.bC 376 (gU o0)))],.gW [],[(100000,some (.bC 376 (gU r)))],[]⟩:=⟨fun hM=>by unfold lH at hM;exact ae func177 ntmps177⟩
noncomputable def lr(x0:List aM)(x1:ByteArray):Option (aM×Bool) :=
 fO (E:=aM×Bool) () 10 [] [1,4,8,9] [4] i2 i2 [] [] m64 (x0.length:Int) (fun k1 _=>
  Bi (idx x0 (k1:Int)) fun v4=>
  If (v4.bn.toList==x1.toList) (
   some (.done (v4,true)))<|
  nX [] [] (some (.next ()))) fun
  |.next _=>
   some ((aM.mk ByteArray.empty [] []),false)
  |.done r=>some r
instance RR{x0 x1}:MC (lr x0 x1) fun r=>bx prog 247 [.L 3 oK x0,.str x1] (.gW [.agg (zk r.1),.bool r.2]):=⟨fun hM=>by unfold lr at hM;exact pb func247 ntmps247⟩
noncomputable def mW(x0:cv)(o0:cv):Option Bool :=
 rX [] (some ((x0.gS.toList==o0.gS.toList)&&(x0.uS.toList==o0.uS.toList)))
instance HX{x0 o0}:MA (mW x0 o0) prog 248 (fun _=>0) fun r=>⟨[.agg (Bp x0),.ref 100000 0],[(100000,some (.bC 207 (Bp o0)))],.bool r,[(100000,some (.bC 207 (Bp o0)))],[]⟩:=⟨fun hM=>by unfold mW at hM;exact ab func248 ntmps248⟩
noncomputable def fC(x0:List cv)(o0:cv):Option Int :=
 fO (E:=Int) () 8 [100000] [0,1,7] [100000] i2 i2 [] [] m64 (x0.length:Int) (fun k1 _=>
  Bi (idx x0 (k1:Int)) fun v4=>
  Bi (cl 16 [] (mW v4 o0)) fun v6=>
  If v6 (
   rX [] (some (.done (k1:Int))))<|
  nX [] [] (some (.next ()))) fun
  |.next _=>
   rX [] (some (-1))
  |.done r=>some r
instance zD{x0 o0}:MA (fC x0 o0) prog 315 (fun _=>0) fun r=>⟨[.L 3 qA x0,.Dh 248 [.ref 100000 0]],[(100000,some (.bC 207 (Bp o0)))],.I r,[(100000,some (.bC 207 (Bp o0)))],[]⟩:=⟨fun hM=>by unfold fC at hM;exact ab func315 ntmps315⟩
noncomputable def eu(x0:List cv)(o0:cv):Option Bool :=
 Bi (cl 7 [] (fC x0 o0)) fun v2=>
 rX [] (some (decide (0≤v2)))
instance yW{x0 o0}:MA (eu x0 o0) prog 249 (fun _=>0) fun r=>⟨[.L 3 qA x0,.Dh 248 [.ref 100000 0]],[(100000,some (.bC 207 (Bp o0)))],.bool r,[(100000,some (.bC 207 (Bp o0)))],[]⟩:=⟨fun hM=>by unfold eu at hM;exact ab func249 ntmps249⟩
noncomputable def lG(o0:aG):Option aG :=
 fO (E:=aG) o0 15 [100000] [0,13,14] [] i2 (fun s t=>(100000,some (.bC 376 (gU s)))::t) [] [] m64 (o0.fV.fP.length:Int) (fun k1 s3=>
  Bi (idx o0.fV.fP (k1:Int)) fun v5=>
  Ck ((ByteArray.mk #[108,105,110,107,32]).size+v5.gS.size≤9223372036854775807)<|
  Ck ((⟨#[108,105,110,107,32]⟩++v5.gS).size+(ByteArray.mk #[32]).size≤9223372036854775807)<|
  Ck (((⟨#[108,105,110,107,32]⟩++v5.gS)++⟨#[32]⟩).size+v5.uS.size≤9223372036854775807)<|
  Bi (cl 28 [] (gj (((⟨#[108,105,110,107,32]⟩++v5.gS)++⟨#[32]⟩)++v5.uS) s3)) fun v10=>
  If (!v10.1) (
   rX [] (some (.done v10.2)))<|
  eT 34 (bA 1 DV.str) [v5.gS,v5.uS] fun v11=>
  fL v10.2 36 [100000] [0,2,3,13,14,15,35] [3] (fun _ t=>(34,.L 1 DV.str v11)::t) (fun s t=>(100000,some (.bC 376 (gU s)))::t) [.z 34] [] m64 (v11.length:Int) (fun AH sw=>
   Bi (idx v11 (AH:Int)) fun v21=>
   Bi (lr sw.fV.aF v21) fun uG=>
   Bi (cl 53 [] (cK uG.2 9 v21 sw)) fun vY=>
   nX [] [] (some vY.2)) fun sw=>
  Ck (eN (sw.fV.fP.length) 0 (k1:Int))<|
  Bi (cl 65 [(100000,3)] (eu (List.take (Int.toNat (k1:Int)) sw.fV.fP) v5)) fun qt=>
  Bi (cl 69 [] (cK (!qt) 5 v5.gS sw)) fun xw=>
  nX [] [] (some (.next xw.2))) fun
  |.next s3=>
   rX [] (some s3)
  |.done r=>some r
instance Jk{o0}:MA (lG o0) prog 178 (fun _=>1) fun r=>⟨[.ref 100000 0],[(100000,some (.bC 376 (gU o0)))],.gW [],[(100000,some (.bC 376 (gU r)))],[]⟩:=⟨fun hM=>by unfold lG at hM;exact ae func178 ntmps178⟩
noncomputable def kI(x0:List de)(x1:ByteArray):Option (de×Bool) :=
 fO (E:=de×Bool) () 10 [] [1,4,8,9] [4] i2 i2 [] [] m64 (x0.length:Int) (fun k1 _=>
  Bi (idx x0 (k1:Int)) fun v4=>
  If (v4.bn.toList==x1.toList) (
   some (.done (v4,true)))<|
  nX [] [] (some (.next ()))) fun
  |.next _=>
   some ((de.mk ByteArray.empty 0 0),false)
  |.done r=>some r
instance TV{x0 x1}:MC (kI x0 x1) fun r=>bx prog 250 [.L 3 xz x0,.str x1] (.gW [.agg (KI r.1),.bool r.2]):=⟨fun hM=>by unfold kI at hM;exact pb func250 ntmps250⟩
noncomputable def oo(x0:Int):Option ByteArray :=
 If (decide (x0<10)) (
  Ck (eN (ByteArray.size ⟨#[48,49,50,51,52,53,54,55,56,57,97,98,99,100,101,102,103,104,105,106,107,108,109,110,111,112,113,114,115,116,117,118,119,120,121,122]⟩) x0 (IntKind.wrap .i64 (x0+1)))<|
  some (ByteArray.extract ⟨#[48,49,50,51,52,53,54,55,56,57,97,98,99,100,101,102,103,104,105,106,107,108,109,110,111,112,113,114,115,116,117,118,119,120,121,122]⟩ (Int.toNat x0) (Int.toNat (IntKind.wrap .i64 (x0+1)))))<|
 Ck (eN (ByteArray.size ⟨#[48,48,48,49,48,50,48,51,48,52,48,53,48,54,48,55,48,56,48,57,49,48,49,49,49,50,49,51,49,52,49,53,49,54,49,55,49,56,49,57,50,48,50,49,50,50,50,51,50,52,50,53,50,54,50,55,50,56,50,57,51,48,51,49,51,50,51,51,51,52,51,53,51,54,51,55,51,56,51,57,52,48,52,49,52,50,52,51,52,52,52,53,52,54,52,55,52,56,52,57,53,48,53,49,53,50,53,51,53,52,53,53,53,54,53,55,53,56,53,57,54,48,54,49,54,50,54,51,54,52,54,53,54,54,54,55,54,56,54,57,55,48,55,49,55,50,55,51,55,52,55,53,55,54,55,55,55,56,55,57,56,48,56,49,56,50,56,51,56,52,56,53,56,54,56,55,56,56,56,57,57,48,57,49,57,50,57,51,57,52,57,53,57,54,57,55,57,56,57,57]⟩) (IntKind.wrap .i64 (x0*2)) (IntKind.wrap .i64 ((IntKind.wrap .i64 (x0*2))+2)))<|
 some (ByteArray.extract ⟨#[48,48,48,49,48,50,48,51,48,52,48,53,48,54,48,55,48,56,48,57,49,48,49,49,49,50,49,51,49,52,49,53,49,54,49,55,49,56,49,57,50,48,50,49,50,50,50,51,50,52,50,53,50,54,50,55,50,56,50,57,51,48,51,49,51,50,51,51,51,52,51,53,51,54,51,55,51,56,51,57,52,48,52,49,52,50,52,51,52,52,52,53,52,54,52,55,52,56,52,57,53,48,53,49,53,50,53,51,53,52,53,53,53,54,53,55,53,56,53,57,54,48,54,49,54,50,54,51,54,52,54,53,54,54,54,55,54,56,54,57,55,48,55,49,55,50,55,51,55,52,55,53,55,54,55,55,55,56,55,57,56,48,56,49,56,50,56,51,56,52,56,53,56,54,56,55,56,56,56,57,57,48,57,49,57,50,57,51,57,52,57,53,57,54,57,55,57,56,57,57]⟩ (Int.toNat (IntKind.wrap .i64 (x0*2))) (Int.toNat (IntKind.wrap .i64 ((IntKind.wrap .i64 (x0*2))+2))))
instance IQ{x0}:MC (oo x0) fun r=>bx prog 319 [.I x0] (.str r):=⟨fun hM=>by unfold oo at hM;exact pb func319 ntmps319⟩
noncomputable def gL(x0:Int)(x1:Int):Option ByteArray :=
 If (x1==10) (
  If ((decide (0≤x0))&&(decide (x0<100))) (
   Bi (oo x0) fun v2=>
   some v2)<|
  none)<|
 none
instance FQ{x0 x1}:MC (gL x0 x1) fun r=>bx prog 255 [.I x0,.I x1] (.str r):=⟨fun hM=>by unfold gL at hM;exact pb func255 ntmps255⟩
noncomputable def lP(x0:Int):Option ByteArray :=
 Bi (gL x0 10) fun v2=>
 some v2
instance JI{x0}:MC (lP x0) fun r=>bx prog 188 [.I x0] (.str r):=⟨fun hM=>by unfold lP at hM;exact pb func188 ntmps188⟩
noncomputable def mq(x0:Int):Option ByteArray :=
 Bi (lP x0) fun v2=>
 some v2
instance Xi{x0}:MC (mq x0) fun r=>bx prog 125 [.I x0] (.str r):=⟨fun hM=>by unfold mq at hM;exact pb func125 ntmps125⟩
noncomputable def mn(x0:List bQ)(x1:ByteArray):Option (br×Bool) :=
 fO (E:=br×Bool) () 12 [] [1,4,10,11] [4] i2 i2 [] [] m64 (x0.length:Int) (fun k1 _=>
  Bi (idx x0 (k1:Int)) fun v4=>
  fO (E:=br×Bool) () 19 [] [1,4,10,11,12,17,18] [4] i2 i2 [] [] m64 (v4.bP.length:Int) (fun k5 _=>
   Bi (idx v4.bP (k5:Int)) fun v8=>
   If (v8.bn.toList==x1.toList) (
    some (.done (v8,true)))<|
   nX [] [] (some (.next ()))) fun
   |.next _=>
    nX [] [] (some (.next ()))
   |.done r=>some (.done r)) fun
  |.next _=>
   some ((br.mk ByteArray.empty [] []),false)
  |.done r=>some r
instance VS{x0 x1}:MC (mn x0 x1) fun r=>bx prog 251 [.L 1 vZ x0,.str x1] (.gW [.agg (zX r.1),.bool r.2]):=⟨fun hM=>by unfold mn at hM;exact pb func251 ntmps251⟩
noncomputable def eh(x0:List ByteArray)(x1:ByteArray):Option Int :=
 fO (E:=Int) () 8 [] [0,1,7] [] i2 i2 [] [] m64 (x0.length:Int) (fun k1 _=>
  Bi (idx x0 (k1:Int)) fun v4=>
  If (x1.toList==v4.toList) (
   some (.done (k1:Int)))<|
  nX [] [] (some (.next ()))) fun
  |.next _=>
   some (-1)
  |.done r=>some r
instance FM{x0 x1}:MC (eh x0 x1) fun r=>bx prog 181 [.L 1 DV.str x0,.str x1] (.I r):=⟨fun hM=>by unfold eh at hM;exact pb func181 ntmps181⟩
noncomputable def dZ(x0:List ByteArray)(x1:ByteArray):Option Bool :=
 Bi (eh x0 x1) fun v2=>
 some (decide (0≤v2))
instance Et{x0 x1}:MC (dZ x0 x1) fun r=>bx prog 180 [.L 1 DV.str x0,.str x1] (.bool r):=⟨fun hM=>by unfold dZ at hM;exact pb func180 ntmps180⟩
noncomputable def jX(x0:dD)(x1:ByteArray):Option (de×Bool) :=
 Bi (dZ x0.eH x1) fun v2=>
 If v2 (
  some ((de.mk ByteArray.empty 0 0),false))<|
 Bi (kI x0.iK x1) fun v4=>
 some (v4.1,v4.2)
instance KQ{x0 x1}:MC (jX x0 x1) fun r=>bx prog 391 [.agg (zZ x0),.str x1] (.gW [.agg (KI r.1),.bool r.2]):=⟨fun hM=>by unfold jX at hM;exact pb func391 ntmps391⟩
@[reducible] noncomputable def qE(s4:aG):Option (Int×aG) :=
 rX [] (some (0,s4))
noncomputable def iU(x1:ByteArray)(o0:dF)(o1:aG):Option (Int×aG) :=
 Bi (jX o0.ub x1) fun v2=>
 If v2.2 (
  rX [] (some (v2.1.tu,o1)))<|
 jn qE 4 [100000,100001] [] [100000] i2 (fun s t=>(100001,some (.bC 376 (gU s)))::t)<|
 Bi (dZ o0.ub.eH x1) fun v6=>
 Bi (gb (!v6) (false) (oM o0.ub.dB x1)) fun v8=>
 If (v6||v8) (
  Bi (cl 40 [(100000,100001)] (eK 10 x1 o1)) fun v10=>
  nX [] [] (qE v10.2))<|
 Bi (cl 46 [(100000,100001)] (eK 9 x1 o1)) fun v12=>
 nX [] [] (qE v12.2)
instance KS{x1 o0 o1}:MA (iU x1 o0 o1) prog 378 (fun _=>1) fun r=>⟨[.ref 100000 0,.str x1],[(100000,some (.bC 508 (dF.b0 o0 (.ref 100001 0)))),(100001,some (.bC 376 (gU o1)))],.int .u8 r.1,[(100001,some (.bC 376 (gU r.2))),(100000,some (.bC 508 (dF.b0 o0 (.ref 100001 0))))],[]⟩:=⟨fun hM=>by unfold iU at hM;exact ab func378 ntmps378⟩
@[reducible] noncomputable def sV(a3:Bool)(v10:Int×ByteArray×Int)(Ji:Int):Option (xV (Int×Bool) (Int×ByteArray×Int)) :=
 nX [] [] (some (.next (Ji,(a3&&(Ji==v10.1)))))
noncomputable def pS(sf_types_scope_typeOf:dD→aB→Option (Int×ByteArray×Int))(x0:dD)(x1:List DV):Option (Int×ByteArray×Int) :=
 fO (E:=Int×ByteArray×Int) (0,true) 15 [] [2,13,14] [2] (fun s t=>(4,.int .u8 s.1)::(7,.bool s.2)::t) i2 [] [] m64 (x1.length:Int) (fun k1 s4=>
  Bi (idx x1 (k1:Int)) fun v6=>
  Bi (aB.dec v6) fun v7=>
  Bi (sf_types_scope_typeOf x0 v7) fun v10=>
  If (v10.2.2 != 0) (
   some (.done (0,v10.2.1,v10.2.2)))<|
  jn (sV s4.2 v10) 8 [] [2,7,10,13,14,15] [2] (fun s t=>(4,.int .u8 s)::t) i2<|
  If ((k1:Int)==0) (
   nX [] [] (sV s4.2 v10 v10.1))<|
  nX [] [] (sV s4.2 v10 s4.1)) fun
  |.next s4=>
   If (!s4.2) (
    some (0,ByteArray.empty,10))<|
   some (s4.1,ByteArray.empty,0)
  |.done r=>some r
instance PD{sf_types_scope_typeOf:dD→aB→Option (Int×ByteArray×Int)}[ih_types_scope_typeOf:∀{x0 x1},MC (sf_types_scope_typeOf x0 x1) fun r=>bx prog 392 [.agg (zZ x0),.agg (kH x1)] (.gW [.int .u8 r.1,.str r.2.1,.I r.2.2])]{x0 x1}:MC (pS sf_types_scope_typeOf x0 x1) fun r=>bx prog 395 [.agg (zZ x0),.L 4 mh x1] (.gW [.int .u8 r.1,.str r.2.1,.I r.2.2]):=⟨fun hM=>by unfold pS at hM;exact pb func395 ntmps395⟩
noncomputable def qD(x0:dD)(x1:ByteArray):Option (Int×Int) :=
 Bi (dZ x0.eH x1) fun v2=>
 If v2 (
  some (1,0))<|
 Bi (kI x0.iK x1) fun v4=>
 If (v4.2&&(v4.1.tu==3)) (
  some (0,10))<|
 If v4.2 (
  some (v4.1.tu,0))<|
 Bi (oM x0.dB x1) fun v6=>
 If v6 (
  some (2,0))<|
 some (0,9)
instance Qv{x0 x1}:MC (qD x0 x1) fun r=>bx prog 396 [.agg (zZ x0),.str x1] (.gW [.int .u8 r.1,.I r.2]):=⟨fun hM=>by unfold qD at hM;exact pb func396 ntmps396⟩
noncomputable def jD(x0:dD)(x1:Int)(x2:ByteArray)(x3:Int):Option (Int×ByteArray×Int) :=
 If (x3 != 0) (
  some (0,x2,x3))<|
 some (x1,ByteArray.empty,0)
instance PB{x0 x1 x2 x3}:MC (jD x0 x1 x2 x3) fun r=>bx prog 397 [.agg (zZ x0),.int .u8 x1,.str x2,.I x3] (.gW [.int .u8 r.1,.str r.2.1,.I r.2.2]):=⟨fun hM=>by unfold jD at hM;exact pb func397 ntmps397⟩
noncomputable def mV(x0:dD)(x1:ByteArray):Option Int :=
 Bi (jX x0 x1) fun v2=>
 If (!v2.2) (
  some 9)<|
 If (v2.1.tu != 3) (
  some 10)<|
 some 0
instance PC{x0 x1}:MC (mV x0 x1) fun r=>bx prog 398 [.agg (zZ x0),.str x1] (.I r):=⟨fun hM=>by unfold mV at hM;exact pb func398 ntmps398⟩
@[reducible] noncomputable def gy(x0:dD)(x1:aB)(v2:Int×ByteArray×Int)(s9:Int×Int):Option (Int×ByteArray×Int) :=
 If (v2.1 != s9.1) (
  some (0,ByteArray.empty,10))<|
 If ((x1.cU==6)||(x1.cU==7)) (
  Bi (mV x0 x1.bn) fun v6=>
  Bi (jD x0 s9.2 x1.bn v6) fun v8=>
  some (v8.1,v8.2.1,v8.2.2))<|
 some (s9.2,ByteArray.empty,0)
@[reducible] noncomputable def jI(x0:dD)(x1:aB)(v2:Int×ByteArray×Int)(s23:Bool):Option (Int×ByteArray×Int) :=
 If s23 (
  nX [] [] (gy x0 x1 v2 (1,2)))<|
 nX [] [] (gy x0 x1 v2 (1,1))
@[reducible] noncomputable def py(x0:dD)(x1:aB)(v2:Int×ByteArray×Int)(xX:Bool):Option (Int×ByteArray×Int) :=
 If xX (
  nX [] [] (gy x0 x1 v2 (2,2)))<|
 jn (jI x0 x1 v2) 24 [] [2,3,4,7,8] [2,3] (fun s t=>(68,.bool s)::t) i2<|
 If (x1.cU==7) (
  nX [] [] (jI x0 x1 v2 (x1.cU==7)))<|
 If (x1.cU==18) (
  nX [] [] (jI x0 x1 v2 (x1.cU==18)))<|
 If (x1.cU==19) (
  nX [] [] (jI x0 x1 v2 (x1.cU==19)))<|
 If (x1.cU==20) (
  nX [] [] (jI x0 x1 v2 (x1.cU==20)))<|
 nX [] [] (jI x0 x1 v2 (x1.cU==21))
@[reducible] noncomputable def sy(x0:dD)(x1:aB)(v2:Int×ByteArray×Int)(s25:Bool):Option (Int×ByteArray×Int) :=
 If s25 (
  nX [] [] (gy x0 x1 v2 (v2.1,2)))<|
 jn (py x0 x1 v2) 20 [] [2,3,4,7,8,22] [2,3] (fun s t=>(64,.bool s)::t) i2<|
 If (x1.cU==10) (
  nX [] [] (py x0 x1 v2 (x1.cU==10)))<|
 If (x1.cU==22) (
  nX [] [] (py x0 x1 v2 (x1.cU==22)))<|
 nX [] [] (py x0 x1 v2 (x1.cU==23))
@[reducible] noncomputable def pz(x0:dD)(x1:aB)(v2:Int×ByteArray×Int)(s26:Bool):Option (Int×ByteArray×Int) :=
 If s26 (
  some (2,ByteArray.empty,0))<|
 If (x1.cU==5) (
  Bi (qD x0 x1.bn) fun mU=>
  Bi (jD x0 mU.1 x1.bn mU.2) fun qs=>
  some (qs.1,qs.2.1,qs.2.2))<|
 If (x1.cU==8) (
  Bi (mV x0 x1.bn) fun qt=>
  Bi (jD x0 1 x1.bn qt) fun xw=>
  some (xw.1,xw.2.1,xw.2.2))<|
 jn (sy x0 x1 v2) 17 [] [2,3,4,7,8,22] [2,3] (fun s t=>(60,.bool s)::t) i2<|
 If (x1.cU==16) (
  nX [] [] (sy x0 x1 v2 (x1.cU==16)))<|
 nX [] [] (sy x0 x1 v2 (x1.cU==17))
@[reducible] noncomputable def lF(x0:dD)(x1:aB)(v2:Int×ByteArray×Int)(ue:Bool):Option (Int×ByteArray×Int) :=
 If ue (
  some (1,ByteArray.empty,0))<|
 jn (pz x0 x1 v2) 9 [] [2,3,4,7,8,22] [2,3] (fun s t=>(26,.bool s)::t) i2<|
 If (x1.cU==2) (
  nX [] [] (pz x0 x1 v2 (x1.cU==2)))<|
 nX [] [] (pz x0 x1 v2 (x1.cU==3))
noncomputable def pR(sf_types_scope_typeOf:dD→aB→Option (Int×ByteArray×Int))(x0:dD)(x1:aB):Option (Int×ByteArray×Int) :=
 Bi ((pS sf_types_scope_typeOf) x0 x1.bR) fun v2=>
 If (v2.2.2 != 0) (
  some (0,v2.2.1,v2.2.2))<|
 jn (gy x0 x1 v2) 5 [] [2,3,4] [2,3] (fun s t=>(7,.int .u8 s.1)::(8,.int .u8 s.2)::t) i2<|
 jn (lF x0 x1 v2) 6 [] [2,3,4,7,8,22] [2,3] (fun s t=>(23,.bool s)::t) i2<|
 If (x1.cU==1) (
  nX [] [] (lF x0 x1 v2 (x1.cU==1)))<|
 nX [] [] (lF x0 x1 v2 (x1.cU==4))
theorem Bv{sf_types_scope_typeOf:dD→aB→Option (Int×ByteArray×Int)}[ih_types_scope_typeOf:∀{x0 x1},MC (sf_types_scope_typeOf x0 x1) fun r=>bx prog 392 [.agg (zZ x0),.agg (kH x1)] (.gW [.int .u8 r.1,.str r.2.1,.I r.2.2])]{x0 x1}:MC (pR sf_types_scope_typeOf x0 x1) fun r=>bx prog 392 [.agg (zZ x0),.agg (kH x1)] (.gW [.int .u8 r.1,.str r.2.1,.I r.2.2]):=⟨fun hM=>by unfold pR at hM;exact pb func392 ntmps392⟩
noncomputable def jU:Nat→dD→aB→Option (Int×ByteArray×Int)
 |0,_,_=>none
 |fu+1,x0,x1=>pR (jU fu) x0 x1
instance Nv(fu:Nat){x0 x1}:MC (jU fu x0 x1) fun r=>bx prog 392 [.agg (zZ x0),.agg (kH x1)] (.gW [.int .u8 r.1,.str r.2.1,.I r.2.2]):=by
 induction fu generalizing x0 x1 with
 |zero=>exact⟨fun h=>by cases h⟩
 |succ fu ih=>exact Bv (sf_types_scope_typeOf:=jU fu)
noncomputable def gI(x1:Int)(x2:List DV)(o0:dF)(o1:aG):Option aG :=
 fL o1 13 [100000,100001] [0,1,11,12] [100000] i2 (fun s t=>(100001,some (.bC 376 (gU s)))::t) [] [] m64 (x2.length:Int) (fun k1 s3=>
  Bi (idx x2 (k1:Int)) fun v5=>
  Bi (aB.dec v5) fun v6=>
  Bi ((jU 64) o0.ub v6) fun v9=>
  Bi (cl 33 [(100000,100001)] (eK v9.2.2 v9.2.1 s3)) fun v11=>
  Bi (cl 41 [(100000,100001)] (cK (v9.1==x1) 10 ByteArray.empty v11.2)) fun mU=>
  nX [] [] (some mU.2)) fun s3=>
 rX [] (some s3)
instance Qw{x1 x2 o0 o1}:MA (gI x1 x2 o0 o1) prog 379 (fun _=>1) fun r=>⟨[.ref 100000 0,.int .u8 x1,.L 4 mh x2],[(100000,some (.bC 508 (dF.b0 o0 (.ref 100001 0)))),(100001,some (.bC 376 (gU o1)))],.gW [],[(100001,some (.bC 376 (gU r))),(100000,some (.bC 508 (dF.b0 o0 (.ref 100001 0))))],[]⟩:=⟨fun hM=>by unfold gI at hM;exact ae func379 ntmps379⟩
noncomputable def mX(x1:aM)(x2:ByteArray)(x3:List DV)(x4:Int)(o0:dF)(o1:aG):Option aG :=
 Bi (mn x1.aX x2) fun v2=>
 Bi (cl 25 [(100000,100001)] (cK v2.2 9 x2 o1)) fun v4=>
 Bi (cl 39 [(100000,100001)] (cK ((IntKind.wrap .i64 ((x3.length:Int)-x4))==(v2.1.dM.length:Int)) 10 x2 v4.2)) fun v6=>
 Bi (cl 42 [] (gI 1 x3 o0 v6.2)) fun v8=>
 rX [] (some v8)
instance PE{x1 x2 x3 x4 o0 o1}:MA (mX x1 x2 x3 x4 o0 o1) prog 380 (fun _=>1) fun r=>⟨[.ref 100000 0,.agg (zk x1),.str x2,.L 4 mh x3,.I x4],[(100000,some (.bC 508 (dF.b0 o0 (.ref 100001 0)))),(100001,some (.bC 376 (gU o1)))],.gW [],[(100001,some (.bC 376 (gU r))),(100000,some (.bC 508 (dF.b0 o0 (.ref 100001 0))))],[]⟩:=⟨fun hM=>by unfold mX at hM;exact ae func380 ntmps380⟩
@[reducible] noncomputable def pJ(x1:bf)(o0:dF)(o1:aG)(Np:Bool):Option aG :=
 If Np (
  Bi (cl 76 [] (gI 2 x1.jV o0 o1)) fun vX=>
  rX [] (some vX))<|
 If (x1.bw==6) (
  Bi (lr o1.fV.aF x1.bn) fun v24=>
  Bi (cl 100 [(100000,100001)] (cK v24.2 9 x1.bn o1)) fun yN=>
  Bi (cl 107 [] (mX v24.1 x1.bM x1.jV 0 o0 yN.2)) fun v28=>
  rX [] (some v28))<|
 If (x1.bw==7) (
  Bi (cl 119 [] (mX o0.lQ x1.bM x1.jV 1 o0 o1)) fun v30=>
  rX [] (some v30))<|
 If (x1.bw==8) (
  Bi (cl 125 [] (gI 1 x1.jV o0 o1)) fun Bh=>
  rX [] (some Bh))<|
 rX [] (some o1)
@[reducible] noncomputable def pK(x1:bf)(o0:dF)(o1:aG)(s34:Bool):Option aG :=
 If s34 (
  Bi (cl 43 [] (iU x1.bn o0 o1)) fun v9=>
  Bi (cl 47 [(100000,100001)] (cK (v9.1==3) 10 x1.bn v9.2)) fun v11=>
  Bi (cl 51 [] (gI 1 x1.jV o0 v11.2)) fun mU=>
  rX [] (some mU))<|
 If (x1.bw==9) (
  Bi (cl 61 [] (iU x1.bn o0 o1)) fun qs=>
  Bi (cl 65 [(100000,100001)] (cK (qs.1==1) 10 x1.bn qs.2)) fun qt=>
  Bi (cl 69 [] (gI 1 x1.jV o0 qt.2)) fun xw=>
  rX [] (some xw))<|
 jn (pJ x1 o0 o1) 14 [100000,100001] [0,3,8] [3,100000,100001] (fun s t=>(70,.bool s)::t) i2<|
 If (x1.bw==4) (
  nX [] [] (pJ x1 o0 o1 (x1.bw==4)))<|
 nX [] [] (pJ x1 o0 o1 (x1.bw==5))
noncomputable def kJ(x1:bf)(o0:dF)(o1:aG):Option aG :=
 If (x1.bw==1) (
  Bi (cl 14 [] (iU x1.bn o0 o1)) fun v2=>
  If ((v2.1==1)||(v2.1==2)) (
   Bi (cl 25 [] (gI v2.1 x1.jV o0 v2.2)) fun v4=>
   rX [] (some v4))<|
  Bi (cl 32 [(100000,100001)] (eK 10 x1.bn v2.2)) fun v6=>
  rX [] (some v6.2))<|
 jn (pK x1 o0 o1) 7 [100000,100001] [0,3,8] [3,100000,100001] (fun s t=>(33,.bool s)::t) i2<|
 If (x1.bw==2) (
  nX [] [] (pK x1 o0 o1 (x1.bw==2)))<|
 nX [] [] (pK x1 o0 o1 (x1.bw==3))
instance Iq{x1 o0 o1}:MA (kJ x1 o0 o1) prog 354 (fun _=>1) fun r=>⟨[.ref 100000 0,.agg (sP x1)],[(100000,some (.bC 508 (dF.b0 o0 (.ref 100001 0)))),(100001,some (.bC 376 (gU o1)))],.gW [],[(100001,some (.bC 376 (gU r))),(100000,some (.bC 508 (dF.b0 o0 (.ref 100001 0))))],[]⟩:=⟨fun hM=>by unfold kJ at hM;exact ae func354 ntmps354⟩
noncomputable def jx(sf_types_body_statements_a:(List DV)→dF→aG→Option (dF×aG))(x1:List DV)(o0:dF)(o1:aG):Option (dF×aG) :=
 fO (E:=dF×aG) (o0.ub,o0.lQ,o0.Dc,o0.wD,o1) 8 [100000,100001] [0,6,7] [] i2 (fun s t=>(100000,some (.bC 508 [.ref 100001 0,.L 2 nC s.1.dB,.L 3 xz s.1.iK,.L 1 DV.str s.1.eH,.str s.2.1.bn,.L 3 xz s.2.1.ez,.L 1 vZ s.2.1.aX,.str s.2.2.1,.I s.2.2.2.1]))::(100001,some (.bC 376 (gU s.2.2.2.2)))::t) [] [] m64 (x1.length:Int) (fun k1 s7=>
  Bi (idx x1 (k1:Int)) fun v9=>
  Bi (bf.dec v9) fun v10=>
  Bi (mq s7.2.2.2.1) fun mU=>
  Ck (s7.2.2.1.size+mU.size≤9223372036854775807)<|
  Bi (cl 26 [(100000,100001)] (gj (s7.2.2.1++mU) s7.2.2.2.2)) fun pF=>
  If (!pF.1) (
   rX [] (some (.done ((dF.mk () s7.1 s7.2.1 s7.2.2.1 s7.2.2.2.1),pF.2))))<|
  Bi (cl 37 [] (kJ v10 (dF.mk () s7.1 s7.2.1 s7.2.2.1 (IntKind.wrap .i64 (s7.2.2.2.1+1))) pF.2)) fun ob=>
  Bi (cl 41 [] (sf_types_body_statements_a v10.vW (dF.mk () s7.1 s7.2.1 s7.2.2.1 (IntKind.wrap .i64 (s7.2.2.2.1+1))) ob)) fun v20=>
  Bi (cl 45 [] (sf_types_body_statements_a v10.uU v20.1 v20.2)) fun vX=>
  nX [] [] (some (.next (vX.1.ub,vX.1.lQ,vX.1.Dc,vX.1.wD,vX.2)))) fun
  |.next s7=>
   rX [] (some ((dF.mk () s7.1 s7.2.1 s7.2.2.1 s7.2.2.2.1),s7.2.2.2.2))
  |.done r=>some r
theorem yO{sf_types_body_statements_a:(List DV)→dF→aG→Option (dF×aG)}[ih_types_body_statements_a:∀{x1 o0 o1},MA (sf_types_body_statements_a x1 o0 o1) prog 316 (fun _=>2) fun r=>⟨[.ref 100000 0,.L 6 mh x1],[(100000,some (.bC 508 (dF.b0 o0 (.ref 100001 0)))),(100001,some (.bC 376 (gU o1)))],.gW [],[(100000,some (.bC 508 (dF.b0 r.1 (.ref 100001 0)))),(100001,some (.bC 376 (gU r.2)))],[]⟩]{x1 o0 o1}:MA (jx sf_types_body_statements_a x1 o0 o1) prog 316 (fun _=>2) fun r=>⟨[.ref 100000 0,.L 6 mh x1],[(100000,some (.bC 508 (dF.b0 o0 (.ref 100001 0)))),(100001,some (.bC 376 (gU o1)))],.gW [],[(100000,some (.bC 508 (dF.b0 r.1 (.ref 100001 0)))),(100001,some (.bC 376 (gU r.2)))],[]⟩:=⟨fun hM=>by unfold jx at hM;exact ae func316 ntmps316⟩
noncomputable def gH:Nat→(List DV)→dF→aG→Option (dF×aG)
 |0,_,_,_=>none
 |fu+1,x1,o0,o1=>jx (gH fu) x1 o0 o1
instance HY(fu:Nat){x1 o0 o1}:MA (gH fu x1 o0 o1) prog 316 (fun _=>2) fun r=>⟨[.ref 100000 0,.L 6 mh x1],[(100000,some (.bC 508 (dF.b0 o0 (.ref 100001 0)))),(100001,some (.bC 376 (gU o1)))],.gW [],[(100000,some (.bC 508 (dF.b0 r.1 (.ref 100001 0)))),(100001,some (.bC 376 (gU r.2)))],[]⟩:=by
 induction fu generalizing x1 o0 o1 with
 |zero=>exact⟨fun h=>by cases h⟩
 |succ fu ih=>exact yO (sf_types_body_statements_a:=gH fu)
noncomputable def my(x1:aM)(x2:br)(x3:ByteArray)(o0:aG):Option aG :=
 fL o0 16 [100000] [0,3,5,6,14,15] [5,6] i2 (fun s t=>(100000,some (.bC 376 (gU s)))::t) [] [] m64 (x2.dM.length:Int) (fun k1 s3=>
  Bi (idx x2.dM (k1:Int)) fun v12=>
  Bi (kI x1.ez v12) fun qm=>
  Bi (gb (!qm.2) (false) (oM s3.fV.aR v12)) fun pF=>
  Ck (((!qm.2)&&(!pF))=true→eN (x2.dM.length) 0 (k1:Int))<|
  Bi (gb ((!qm.2)&&(!pF)) (false) (dZ (List.take (Int.toNat (k1:Int)) x2.dM) v12)) fun xw=>
  Bi (cl 51 [] (cK (((!qm.2)&&(!pF))&&(!xw)) 5 v12 s3)) fun v21=>
  nX [] [] (some v21.2)) fun s3=>
 Ck ((ByteArray.mk #[115,116,97,116,101,109,101,110,116,32]).size+x1.bn.size≤9223372036854775807)<|
 Ck ((⟨#[115,116,97,116,101,109,101,110,116,32]⟩++x1.bn).size+(ByteArray.mk #[46]).size≤9223372036854775807)<|
 Ck (((⟨#[115,116,97,116,101,109,101,110,116,32]⟩++x1.bn)++⟨#[46]⟩).size+x2.bn.size≤9223372036854775807)<|
 Ck ((((⟨#[115,116,97,116,101,109,101,110,116,32]⟩++x1.bn)++⟨#[46]⟩)++x2.bn).size+x3.size≤9223372036854775807)<|
 Ck (((((⟨#[115,116,97,116,101,109,101,110,116,32]⟩++x1.bn)++⟨#[46]⟩)++x2.bn)++x3).size+(ByteArray.mk #[32]).size≤9223372036854775807)<|
 Bi (cl 83 [(100000,66),(100001,100000)] ((gH 64) x2.xc (dF.mk () (dD.mk s3.fV.aR x1.ez x2.dM) x1 (((((⟨#[115,116,97,116,101,109,101,110,116,32]⟩++x1.bn)++⟨#[46]⟩)++x2.bn)++x3)++⟨#[32]⟩) 0) s3)) fun v10=>
 rX [] (some v10.2)
instance KR{x1 x2 x3 o0}:MA (my x1 x2 x3 o0) prog 252 (fun _=>1) fun r=>⟨[.ref 100000 0,.agg (zk x1),.agg (zX x2),.str x3],[(100000,some (.bC 376 (gU o0)))],.gW [],[(100000,some (.bC 376 (gU r)))],[]⟩:=⟨fun hM=>by unfold my at hM;exact ae func252 ntmps252⟩
noncomputable def jw(x1:Int)(o0:aG):Option aG :=
 Bi (idx o0.fV.aF x1) fun v2=>
 Ck ((ByteArray.mk #[99,111,109,112,111,110,101,110,116,32]).size+v2.bn.size≤9223372036854775807)<|
 Bi (cl 30 [] (gj (⟨#[99,111,109,112,111,110,101,110,116,32]⟩++v2.bn) o0)) fun v5=>
 If (!v5.1) (
  rX [] (some v5.2))<|
 Ck (eN (v5.2.fV.aF.length) 0 x1)<|
 Bi (lr (List.take (Int.toNat x1) v5.2.fV.aF) v2.bn) fun v8=>
 Bi (gb (!v8.2) (false) (oM v5.2.fV.aR v2.bn)) fun v10=>
 Bi (cl 61 [] (cK ((!v8.2)&&(!v10)) 5 v2.bn v5.2)) fun v12=>
 fO (E:=aG) v12.2 65 [100000] [0,4,63,64] [4] i2 (fun s t=>(100000,some (.bC 376 (gU s)))::t) [] [] m64 (v2.ez.length:Int) (fun k13 MF=>
  Bi (idx v2.ez (k13:Int)) fun GB=>
  Ck ((ByteArray.mk #[118,97,114,105,97,98,108,101,32]).size+v2.bn.size≤9223372036854775807)<|
  Ck ((⟨#[118,97,114,105,97,98,108,101,32]⟩++v2.bn).size+(ByteArray.mk #[46]).size≤9223372036854775807)<|
  Ck (((⟨#[118,97,114,105,97,98,108,101,32]⟩++v2.bn)++⟨#[46]⟩).size+GB.bn.size≤9223372036854775807)<|
  Bi (cl 78 [] (gj (((⟨#[118,97,114,105,97,98,108,101,32]⟩++v2.bn)++⟨#[46]⟩)++GB.bn) MF)) fun VO=>
  If (!VO.1) (
   rX [] (some (.done VO.2)))<|
  Ck (eN (v2.ez.length) 0 (k13:Int))<|
  Bi (kI (List.take (Int.toNat (k13:Int)) v2.ez) GB.bn) fun v60=>
  Bi (gb (!v60.2) (false) (oM VO.2.fV.aR GB.bn)) fun Wq=>
  Bi (cl 106 [] (cK ((!v60.2)&&(!Wq)) 5 GB.bn VO.2)) fun TN=>
  nX [] [] (some (.next TN.2))) fun
  |.next MF=>
   fO (E:=aG) MF 111 [100000] [0,4,109,110] [4] i2 (fun s t=>(100000,some (.bC 376 (gU s)))::t) [] [] m64 (v2.aX.length:Int) (fun k16 sK=>
    Bi (idx v2.aX (k16:Int)) fun v20=>
    fO (E:=aG) sK 119 [100000] [0,4,11,12,109,110,111,117,118] [4,12] i2 (fun s t=>(100000,some (.bC 376 (gU s)))::t) [] [] m64 (v20.bP.length:Int) (fun k21 s23=>
     Bi (idx v20.bP (k21:Int)) fun vY=>
     Ck ((ByteArray.mk #[104,97,110,100,108,101,114,32]).size+v2.bn.size≤9223372036854775807)<|
     Ck ((⟨#[104,97,110,100,108,101,114,32]⟩++v2.bn).size+(ByteArray.mk #[46]).size≤9223372036854775807)<|
     Ck (((⟨#[104,97,110,100,108,101,114,32]⟩++v2.bn)++⟨#[46]⟩).size+vY.bn.size≤9223372036854775807)<|
     Ck ((((⟨#[104,97,110,100,108,101,114,32]⟩++v2.bn)++⟨#[46]⟩)++vY.bn).size+(ByteArray.mk #[32]).size≤9223372036854775807)<|
     Bi (mq ((k16:Int)+1)) fun v31=>
     Ck (((((⟨#[104,97,110,100,108,101,114,32]⟩++v2.bn)++⟨#[46]⟩)++vY.bn)++⟨#[32]⟩).size+v31.size≤9223372036854775807)<|
     Bi (cl 137 [] (gj (((((⟨#[104,97,110,100,108,101,114,32]⟩++v2.bn)++⟨#[46]⟩)++vY.bn)++⟨#[32]⟩)++v31) s23)) fun Kw=>
     If (!Kw.1) (
      rX [] (some (.done Kw.2)))<|
     Ck (eN (v20.bP.length) 0 (k21:Int))<|
     eT 145 (bA 1 vZ) [(bQ.mk (List.take (Int.toNat (k21:Int)) v20.bP))] fun Mv=>
     Bi (mn Mv vY.bn) fun Nn=>
     Bi (cl 156 [] (cK (!Nn.2) 5 vY.bn Kw.2)) fun v40=>
     Ck (eN (v2.aX.length) 0 (k16:Int))<|
     Bi (mn (List.take (Int.toNat (k16:Int)) v2.aX) vY.bn) fun TG=>
     Bi (cl 181 [] (cK ((!TG.2)||((TG.1.dM.length:Int)==(vY.dM.length:Int))) 10 vY.bn v40.2)) fun VI=>
     Bi (mq ((k16:Int)+1)) fun xv=>
     Ck ((ByteArray.mk #[32]).size+xv.size≤9223372036854775807)<|
     Bi (cl 189 [] (my v2 vY (⟨#[32]⟩++xv) VI.2)) fun Nq=>
     nX [] [] (some (.next Nq))) fun
     |.next s23=>
      nX [] [] (some (.next s23))
     |.done r=>some (.done r)) fun
    |.next sK=>
     rX [] (some sK)
    |.done r=>some r
  |.done r=>some r
instance Gh{x1 o0}:MA (jw x1 o0) prog 179 (fun _=>1) fun r=>⟨[.ref 100000 0,.I x1],[(100000,some (.bC 376 (gU o0)))],.gW [],[(100000,some (.bC 376 (gU r)))],[]⟩:=⟨fun hM=>by unfold jw at hM;exact aez func179 ntmps179 (wz [145])⟩
noncomputable def wT(x0:bj):Option (oA×Int) :=
 Bi (rl x0) fun v2=>
 Bi (cl 14 [(100000,8)] (eK v2 x0.bn (aG.mk x0 ⟨#[102,108,101,101,116]⟩ (oA.mk ByteArray.empty ByteArray.empty 0)))) fun v4=>
 Bi (cl 16 [(100000,8)] (lH v4.2)) fun v6=>
 Bi (cl 18 [(100000,8)] (lG v6)) fun v8=>
 fL v8 22 [] [2,4,21] [2] i2 (fun s t=>(8,some (.bC 376 (gU s)))::t) [] [] m64 (x0.aF.length:Int) (fun k9 sx=>
  Bi (cl 27 [(100000,8)] (jw (k9:Int) sx)) fun mU=>
  nX [] [] (some mU)) fun sx=>
 some (sx.uJ,sx.uJ.FT)
instance aak{x0}:MC (wT x0) fun r=>bx prog 120 [.agg (tX x0)] (.gW [.agg (oA.cs r.1),.I r.2]):=⟨fun hM=>by unfold wT at hM;exact pb func120 ntmps120⟩
end Go.Proofs.YtpeihknododmlaaGreatDoor
namespace Go.Proofs.YtpeihknododmlaaGreatDoor
open Go.Proofs.Tryz
theorem acn(bs:ByteArray):∀(n i:Nat) (r:List UInt8),bs.size-i=n→ByteArray.toList.loop bs i r=r.reverse++bs.data.toList.drop i:=by
 intro n
 induction n with
 |zero=>
  intro i r h;unfold ByteArray.toList.loop;rw[if_neg (by omega),List.drop_eq_nil_of_le (by show bs.data.size≤i;exact Nat.le_of_sub_eq_zero h),List.append_nil]
 |succ n ih=>
  intro i r h;have hi:i<bs.data.size:=by show i<bs.size;omega
  unfold ByteArray.toList.loop;rw[if_pos (by omega),ih (i+1) _ (by omega),List.reverse_cons,List.append_assoc]
  congr 1
  have:bs.get! i=bs.data[i]:=by
   show bs.data[i]! = _;rw[getElem!_pos bs.data i hi]
  rw[this,List.drop_eq_getElem_cons (i:=i) (by simpa using hi)];simp
theorem aib(bs:ByteArray):bs.toList=bs.data.toList:=by
 unfold ByteArray.toList;rw[acn bs _ 0 [] rfl];simp
theorem zw{a b:ByteArray}:(a.toList==b.toList)=decide (a=b):=by
 by_cases h:a=b
 ·subst h;simp
 ·rw[decide_eq_false h]
  simp only[beq_eq_false_iff_ne,ne_eq,aib];intro e;apply h;cases a;cases b;simp at e;rw[e]
theorem Af(l:List UInt8):(ByteArray.mk (List.toArray l)).size=l.length:=rfl
theorem vG{c d i j:Nat}(hc:c<256)(hd:d<256)(hi:i<200)(hj:j<200)(h:nm c i=nm d j):c=d∧i=j:=by
 unfold nm at h;injection h with h
 have h1:c.toUInt8=d.toUInt8∧(48+i).toUInt8=(48+j).toUInt8:=by simpa using h
 have e1:=congrArg UInt8.toNat h1.1;have e2:=congrArg UInt8.toNat h1.2;simp only[Nat.toUInt8,UInt8.toNat_ofNat']at e1 e2;omega
theorem LV{i j:Nat}(hi:i<150)(hj:j<150)(h:cn i=cn j):i=j:=by
 unfold cn at h;injection h with h
 have h1:(97+i).toUInt8=(97+j).toUInt8:=by simpa using h
 have e1:=congrArg UInt8.toNat h1;simp only[Nat.toUInt8,UInt8.toNat_ofNat']at e1;omega
theorem DM{c i:Nat}:(nm c i).size=2:=rfl
theorem ace{i:Nat}:(cn i).size=1:=rfl
theorem ah9{i c j:Nat}(h:cn i=nm c j):False:=by
 have:=congrArg ByteArray.size h;rw[ace,DM]at this;omega
theorem Fa{l:List cm}{x:ByteArray}(hl:l.length≤1000):Wp (oM l x) fun r=>(r=true∧∃a∈l,a.bn=x)∨(r=false∧∀a∈l,a.bn≠x):=by
 unfold oM fj fD;refine au (P:=fun r=>(r=true∧∃a∈l,a.bn=x)∨(r=false∧∀a∈l,a.bn≠x)) (aQ (au (P:=fun r=>(0≤r∧∃a∈l,a.bn=x)∨(r = -1∧∀a∈l,a.bn≠x)) (aQ ?_) ?_)) (fun r h=>ah h)
 ·refine eI (fun j _=>∀(k:Nat) (a:cm),k<j→l[k]? = some a→a.bn≠x) (by unfold m64;omega) (fun k a h=>by omega) ?_ ?_
  ·intro j _ hj hI
   refine bJ hj (fun a a1 a2=>?_);unfold vk;refine od (aQ (aI (ah ?_)));rw[zw];refine ak (fun hb=>aI (ah ?_)) (fun hb=>ax (ah ?_))
   ·exact ah (.inl ⟨Int.natCast_nonneg _,a,a2,of_decide_eq_true hb⟩)
   ·intro k b hk iO
    rcases Nat.lt_or_ge k j with h|h
    ·exact hI k b h iO
    ·obtain rfl:k=j:=by omega
     rw[a1]at iO;obtain rfl:=Option.some.inj iO;exact of_decide_eq_false hb
  ·intro _ hI
   rw[Int.toNat_natCast]at hI;refine aI (ah (.inr ⟨rfl,fun a ha=>?_⟩));obtain⟨k,hk,rfl⟩:=List.getElem_of_mem ha;exact hI k _ hk (List.getElem?_eq_getElem hk)
 ·rintro r (⟨h1,h2⟩|⟨h1,h2⟩)
  ·exact aI (ah (.inl ⟨by simpa using h1,h2⟩))
  ·exact aI (ah (.inr ⟨by rw[h1];rfl,h2⟩))
theorem yF{l:List aM}{x:ByteArray}(hl:l.length≤1000):Wp (lr l x) fun r=>(r.2=true∧r.1∈l∧r.1.bn=x)∨(r.2=false∧∀a∈l,a.bn≠x):=by
 unfold lr;refine eI (fun j _=>∀(k:Nat) (a:aM),k<j→l[k]? = some a→a.bn≠x) (by unfold m64;omega) (fun k a h=>by omega) ?_ ?_
 ·intro j _ hj hI
  refine bJ hj (fun a a1 a2=>?_);rw[zw];refine ak (fun hb=>ah ?_) (fun hb=>ax (ah ?_))
  ·exact ah (.inl ⟨rfl,a2,of_decide_eq_true hb⟩)
  ·intro k b hk iO
   rcases Nat.lt_or_ge k j with h|h
   ·exact hI k b h iO
   ·obtain rfl:k=j:=by omega
    rw[a1]at iO;obtain rfl:=Option.some.inj iO;exact of_decide_eq_false hb
 ·intro _ hI
  rw[Int.toNat_natCast]at hI;refine ah (.inr ⟨rfl,fun a ha=>?_⟩);obtain⟨k,hk,rfl⟩:=List.getElem_of_mem ha;exact hI k _ hk (List.getElem?_eq_getElem hk)
theorem CA{l:List de}{x:ByteArray}(hl:l.length≤1000):Wp (kI l x) fun r=>(r.2=true∧r.1∈l∧r.1.bn=x)∨(r.2=false∧∀a∈l,a.bn≠x):=by
 unfold kI;refine eI (fun j _=>∀(k:Nat) (a:de),k<j→l[k]? = some a→a.bn≠x) (by unfold m64;omega) (fun k a h=>by omega) ?_ ?_
 ·intro j _ hj hI
  refine bJ hj (fun a a1 a2=>?_);rw[zw];refine ak (fun hb=>ah ?_) (fun hb=>ax (ah ?_))
  ·exact ah (.inl ⟨rfl,a2,of_decide_eq_true hb⟩)
  ·intro k b hk iO
   rcases Nat.lt_or_ge k j with h|h
   ·exact hI k b h iO
   ·obtain rfl:k=j:=by omega
    rw[a1]at iO;obtain rfl:=Option.some.inj iO;exact of_decide_eq_false hb
 ·intro _ hI
  rw[Int.toNat_natCast]at hI;refine ah (.inr ⟨rfl,fun a ha=>?_⟩);obtain⟨k,hk,rfl⟩:=List.getElem_of_mem ha;exact hI k _ hk (List.getElem?_eq_getElem hk)
theorem NL{l:List ByteArray}{x:ByteArray}(hl:l.length≤1000):Wp (eh l x) fun r=>(∃k:Nat,r=(k:Int)∧l[k]? = some x)∨(r = -1∧x ∉ l):=by
 unfold eh;refine eI (fun j _=>∀(k:Nat) (a:ByteArray),k<j→l[k]? = some a→a≠x) (by unfold m64;omega) (fun k a h=>by omega) ?_ ?_
 ·intro j _ hj hI
  refine bJ hj (fun a a1 a2=>?_);rw[zw];refine ak (fun hb=>ah ?_) (fun hb=>ax (ah ?_))
  ·exact ah (.inl ⟨j,rfl,by rw[of_decide_eq_true hb];exact a1⟩)
  ·intro k b hk iO
   rcases Nat.lt_or_ge k j with h|h
   ·exact hI k b h iO
   ·obtain rfl:k=j:=by omega
    rw[a1]at iO;obtain rfl:=Option.some.inj iO;exact fun e=>of_decide_eq_false hb e.symm
 ·intro _ hI
  rw[Int.toNat_natCast]at hI;refine ah (.inr ⟨rfl,fun ha=>?_⟩);obtain⟨k,hk,e⟩:=List.getElem_of_mem ha;exact hI k _ hk (List.getElem?_eq_getElem hk) e
theorem OA{l:List ByteArray}{x:ByteArray}(hl:l.length≤1000):Wp (dZ l x) fun r=>(r=true∧x∈l)∨(r=false∧x ∉ l):=by
 unfold dZ;refine au (NL hl) ?_;rintro r (⟨k,rfl,h⟩|⟨rfl,h⟩)
 ·exact ah (.inl ⟨decide_eq_true (Int.natCast_nonneg k),List.mem_of_getElem? h⟩)
 ·exact ah (.inr ⟨rfl,h⟩)
theorem Au{l:List bQ}{x:ByteArray}(hl:l.length≤1000)(ZR:∀u∈l,u.bP.length≤1000):Wp (mn l x) fun r=>(r.2=true∧(∃u∈l,r.1∈u.bP)∧r.1.bn=x)∨(r.2=false∧∀u∈l,∀a∈u.bP,a.bn≠x):=by
 unfold mn;refine eI (fun j _=>∀(k:Nat) (u:bQ),k<j→l[k]? = some u→∀a∈u.bP,a.bn≠x) (by unfold m64;omega) (fun k a h=>by omega) ?_ ?_
 ·intro j _ hj hO
  refine bJ hj (fun u u1 u2=>?_);have:=ZR u u2;refine eI (fun j _=>∀(k:Nat) (a:br),k<j→u.bP[k]? = some a→a.bn≠x) (by unfold m64;omega) (fun k a h=>by omega) ?_ ?_
  ·intro j _ hj hI
   refine bJ hj (fun a a1 a2=>?_);rw[zw];refine ak (fun hb=>ah ?_) (fun hb=>ax (ah ?_))
   ·exact ah (ah (.inl ⟨rfl,⟨u,u2,a2⟩,of_decide_eq_true hb⟩))
   ·intro k b hk iO
    rcases Nat.lt_or_ge k j with h|h
    ·exact hI k b h iO
    ·obtain rfl:k=j:=by omega
     rw[a1]at iO;obtain rfl:=Option.some.inj iO;exact of_decide_eq_false hb
  ·intro _ hI
   rw[Int.toNat_natCast]at hI;refine ax (ah ?_);intro k v hk hv a ha;rcases Nat.lt_or_ge k j with h|h
   ·exact hO k v h hv a ha
   ·obtain rfl:k=j:=by omega
    rw[u1]at hv;obtain rfl:=Option.some.inj hv;obtain⟨k,hk,rfl⟩:=List.getElem_of_mem ha;exact hI k _ hk (List.getElem?_eq_getElem hk)
 ·intro _ hI
  rw[Int.toNat_natCast]at hI;refine ah (.inr ⟨rfl,fun u hu a ha=>?_⟩);obtain⟨k,hk,rfl⟩:=List.getElem_of_mem hu;exact hI k _ hk (List.getElem?_eq_getElem hk) a ha
theorem OL(b:ByteArray)(i j:Nat):(b.extract i j).size≤j-i:=by
 rw[ByteArray.size_extract];omega
theorem Cd{n:Int}(h0:0≤n)(h1:n<100):Wp (mq n) fun s=>s.size≤2:=by
 unfold mq lP gL oo;refine au (P:=fun s=>s.size≤2) (au (P:=fun s=>s.size≤2) (ak (fun _=>ak (fun _=>au (P:=fun s=>s.size≤2) ?_ (fun _ h=>ah h)) (fun hb=>?_)) (fun hb=>by cases hb)) (fun _ h=>ah h)) (fun _ h=>ah h)
 ·have w1:IntKind.wrap .i64 (n+1)=n+1:=wrap_i64 (by omega) (by omega)
  have w2:IntKind.wrap .i64 (n*2)=n*2:=wrap_i64 (by omega) (by omega);have w3:IntKind.wrap .i64 (n*2+2)=n*2+2:=wrap_i64 (by omega) (by omega);refine ak (fun hb=>?_) (fun hb=>?_)
  ·have:n<10:=by simpa using hb
   rw[w1];refine aK ?_ (ah (Nat.le_trans (OL _ _ _) (by omega)));unfold eN;simp only[Af,List.length_cons,List.length_nil];omega
  ·rw[w2,w3]
   refine aK ?_ (ah (Nat.le_trans (OL _ _ _) (by omega)));unfold eN;simp only[Af,List.length_cons,List.length_nil];omega
 ·simp at hb;omega
structure Ef(I T F p:Nat)(s:dD):Prop where
 i3:I≤3
 t1:T≤1
 f2:F≤2
 p2:p≤2
 vars:s.iK=vj I T
 fl:s.dB.length=F
 fn:∀(k:Nat) (x:cm),s.dB[k]? = some x→x.bn=nm 102 k
 pr:s.eH=(List.range p).map (nm 112)
theorem TT{I T:Nat}:(vj I T).length=I+1+T:=by unfold vj;simp;omega
theorem aaS{I T i:Nat}(h:i<I):(⟨nm 120 i,1,(i:Int)⟩:de)∈vj I T:=by
 unfold vj;exact List.mem_append.2 (.inl (List.mem_append.2 (.inl (List.mem_map.2 ⟨i,List.mem_range.2 h,rfl⟩))))
theorem aaU{I T:Nat}:(⟨nm 98 0,2,0⟩:de)∈vj I T:=by
 unfold vj;exact List.mem_append.2 (.inl (List.mem_append.2 (.inr (by simp))))
theorem aaT{I T i:Nat}(h:i<T):(⟨nm 116 i,3,0⟩:de)∈vj I T:=by
 unfold vj;exact List.mem_append.2 (.inr (List.mem_map.2 ⟨i,List.mem_range.2 h,rfl⟩))
theorem GN{I T:Nat}(i3:I≤3)(t1:T≤1){c k:Nat}(hc:c<256)(hk:k<200):Wp (kI (vj I T) (nm c k)) fun r=>
  (r.2=true∧((c=120∧k<I∧r.1.tu=1)∨(c=98∧k=0∧r.1.tu=2)∨(c=116∧k<T∧r.1.tu=3)))∨(r.2=false∧¬(c=120∧k<I)∧¬(c=98∧k=0)∧¬(c=116∧k<T)):=by
 refine(CA (by rw[TT];omega)).imp ?_;rintro⟨v,b⟩ (⟨h1,h2,h3⟩|⟨h1,h2⟩)
 ·refine .inl ⟨h1,?_⟩
  dsimp only at h2 h3 ⊢;rcases zC h2 with⟨i,hi,rfl⟩ | rfl|⟨i,hi,rfl⟩
  ·have:=vG (by omega) hc (by omega) hk h3
   exact .inl ⟨this.1.symm,by omega,rfl⟩
  ·have:=vG (by omega) hc (by omega) hk h3
   exact .inr (.inl ⟨this.1.symm,this.2.symm,rfl⟩)
  ·have:=vG (by omega) hc (by omega) hk h3
   exact .inr (.inr ⟨this.1.symm,by omega,rfl⟩)
 ·refine .inr ⟨h1,?_,?_,?_⟩
  ·rintro⟨rfl,h⟩;exact h2 _ (aaS h) rfl
  ·rintro⟨rfl,rfl⟩;exact h2 _ aaU rfl
  ·rintro⟨rfl,h⟩;exact h2 _ (aaT h) rfl
section
variable {I T F p:Nat} {s:dD}
theorem Ef.par(h:Ef I T F p s){c k:Nat}(hc:c<256)(hk:k<200):Wp (dZ s.eH (nm c k)) fun r=>(r=true∧c=112∧k<p)∨(r=false∧¬(c=112∧k<p)):=by
 have p2:=h.p2;rw[h.pr];refine(OA (by simp;omega)).imp ?_;rintro r (⟨rfl,h⟩|⟨rfl,h⟩)
 ·obtain⟨i,hi,e⟩:=List.mem_map.1 h
  have hi:=List.mem_range.1 hi;have:=vG (by omega) hc (by omega) hk e;exact .inl ⟨rfl,by omega,by omega⟩
 ·refine .inr ⟨rfl,?_⟩
  rintro⟨rfl,hk⟩;exact h (List.mem_map.2 ⟨k,List.mem_range.2 hk,rfl⟩)
theorem EZ{l:List cm}(f2:l.length≤2)(fn:∀(k:Nat) (x:cm),l[k]? = some x→x.bn=nm 102 k){c k:Nat}(hc:c<256)(hk:k<200):Wp (oM l (nm c k)) fun r=>(r=true∧c=102∧k<l.length)∨(r=false∧¬(c=102∧k<l.length)):=by
 refine(Fa (by omega)).imp ?_;rintro r (⟨rfl,a,ha,e⟩|⟨rfl,h⟩)
 ·obtain⟨i,hi,rfl⟩:=List.getElem_of_mem ha
  rw[fn i _ (List.getElem?_eq_getElem hi)]at e;have:=vG (by omega) hc (by omega) hk e;exact .inl ⟨rfl,by omega,by omega⟩
 ·refine .inr ⟨rfl,?_⟩
  rintro⟨rfl,hk⟩;exact h _ (List.getElem_mem hk) (fn k _ (List.getElem?_eq_getElem hk))
theorem Ef.name(h:Ef I T F p s){c k:Nat}{t:Int}(hc:c<256)(hk:k<200)(hn:(t=1∧c=120∧k<I)∨(t=1∧c=112∧k<p)∨(t=2∧c=98∧k=0)∨(t=2∧c=102∧k<F)):qD s (nm c k)=some (t,0):=by
 unfold qD;refine ca (au (h.par hc hk) ?_);rintro r (⟨rfl,h1,h2⟩|⟨rfl,h1⟩)
 ·refine ak (fun _=>ah ?_) (fun hb=>by cases hb)
  obtain rfl:t=1:=by omega
  rfl
 ·refine ak (fun hb=>by cases hb) (fun _=>?_)
  rw[h.vars];refine au (GN h.i3 h.t1 hc hk) ?_;rintro⟨v,b⟩ (⟨rfl,h2⟩|⟨rfl,h2⟩)
  ·dsimp only at h2 ⊢
   refine ak (fun hb=>?_) (fun _=>ak (fun _=>ah ?_) (fun hb=>by cases hb))
   ·have:v.tu=3:=by simpa using hb
    omega
   ·have:v.tu=t:=by omega
    rw[this]
  ·refine ak (fun hb=>by cases hb) (fun _=>ak (fun hb=>by cases hb) (fun _=>?_))
   have f2:=h.f2;have fl:=h.fl;refine au (EZ (by omega) h.fn hc hk) ?_;rintro r (⟨rfl,h3⟩|⟨rfl,h3⟩)
   ·refine ak (fun _=>ah ?_) (fun hb=>by cases hb)
    obtain rfl:t=2:=by omega
    rfl
   ·omega
theorem Ef.var(h:Ef I T F p s){c k:Nat}{t:Int}(hc:c<256)(hk:k<200)(hn:(t=1∧c=120∧k<I)∨(t=2∧c=98∧k=0)∨(t=3∧c=116∧k<T)):Wp (jX s (nm c k)) fun r=>r.2=true∧r.1.tu=t:=by
 unfold jX;refine au (h.par hc hk) ?_;rintro r (⟨rfl,h1⟩|⟨rfl,h1⟩)
 ·omega
 ·refine ak (fun hb=>by cases hb) (fun _=>?_)
  rw[h.vars];refine au (GN h.i3 h.t1 hc hk) ?_;rintro⟨v,b⟩ (⟨rfl,h2⟩|⟨rfl,h2⟩)
  ·dsimp only at h2
   exact ah ⟨rfl,by dsimp only;omega⟩
  ·omega
theorem Ef.table(h:Ef I T F p s)(ht:0<T):mV s (nm 116 0)=some 0:=by
 unfold mV;refine ca (au (h.var (t:=3) (by omega) (by omega) (by omega)) ?_);rintro⟨v,b⟩ ⟨rfl,h2⟩;dsimp only at h2;exact ak (fun hb=>by cases hb) (fun _=>ak (fun hb=>by dsimp only at hb;rw[h2]at hb;cases hb) (fun _=>ah rfl))
def VR(t:Bool):Int:=if t then 2 else 1
theorem Ze{sf:dD→aB→Option (Int×ByteArray×Int)}{u:Bool}{l:List DV}(hl:l.length≤2)(h:∀a∈l,∃e,aB.dec a=some e∧sf s e=some (VR u,ByteArray.empty,0)):pS sf s l=some (if l = []then 0 else VR u,ByteArray.empty,0):=by
 unfold pS;refine ca (eI (fun j s=>s.2=true∧s.1=if j=0 then 0 else VR u) (by unfold m64;omega) ⟨rfl,rfl⟩ ?_ ?_)
 ·rintro j ⟨a,b⟩ hj ⟨h1,h2⟩
  dsimp only at h1 h2;subst h1;refine bJ hj (fun x x1 x2=>?_);obtain⟨e,e1,e2⟩:=h x x2;refine aA e1 (aA e2 (ak (fun hb=>by cases hb) (fun _=>cS (ak (fun hb=>?_) (fun hb=>?_)))))
  ·exact ax (ax (ah ⟨by simp,by simp⟩))
  ·have:j≠0:=by simpa using hb
   rw[if_neg this]at h2;exact ax (ax (ah ⟨by dsimp only;rw[h2];simp,by dsimp only;rw[if_neg (by omega)];exact h2⟩))
 ·rintro⟨a,b⟩ ⟨h1,h2⟩
  dsimp only at h1 h2;subst h1;rw[Int.toNat_natCast]at h2;refine ak (fun hb=>by cases hb) (fun _=>ah ?_);dsimp only;rw[h2]
  by_cases e:l = []
  ·subst e;rfl
  ·rw[if_neg e,if_neg (by simpa using e)]
end
abbrev zo(I T F p:Nat)(gP:List (List Int))(own:Nat):SN:=⟨I,T,F,p,gP,own⟩
theorem TX{I T F p own:Nat}{gP:List (List Int)}{s:dD}(h:Ef I T F p s):∀{d:Nat} {t:Bool} {x:DV},WE (zo I T F p gP own) Ct d t x→∀{fu:Nat},d≤fu→∃e,aB.dec x=some e∧jU fu s e=some (VR t,ByteArray.empty,0):=by
 have i3:=h.i3;have t1:=h.t1;have f2:=h.f2;have p2:=h.p2;intro d t x hx
 induction hx with
 | @node d t u op n DL c l sh hl _ ih=>
  intro fu hf;obtain⟨g,rfl⟩:∃g,fu=g+1:=⟨fu-1,by omega⟩;have hc:=sh.c2;refine⟨_,Bm _,?_⟩;have ha:=Ze (s:=s) (sf:=jU g) (u:=u) (l:=l) (by omega) (fun a ha=>ih a ha (by omega))
  have h0:c=0→(if l = []then(0:Int)else VR u)=0:=fun e=>by
   rw[if_pos (List.eq_nil_of_length_eq_zero (by omega))]
  have h1:c≠0→(if l = []then(0:Int)else VR u)=VR u:=fun e=>by
   rw[if_neg (fun e2=>by subst e2;exact e (by simpa using hl.symm))]
  generalize (if l = []then(0:Int)else VR u)=z at ha h0 h1;unfold jU pR;refine ca (aA ha ?_);refine ak (fun hb=>by cases hb) (fun _=>cS (cS ?_))
  have nam:∀{c k:Nat} {t:Int},c<256→k<200→(t=1∧c=120∧k<I)∨(t=1∧c=112∧k<p)∨(t=2∧c=98∧k=0)∨(t=2∧c=102∧k<F)→Wp (pz s ⟨5,nm c k,0,l⟩ (z,ByteArray.empty,0) false) (· = (t,ByteArray.empty,0)):=by
   intro c k t hc hk hn;refine ak (fun hb=>by cases hb) (fun _=>ak (fun _=>?_) (fun hb=>by cases hb));refine aA (h.name hc hk hn) ?_;unfold jD;exact au (P:=(· = (t,ByteArray.empty,0))) (ak (fun hb=>by cases hb) (fun _=>ah rfl)) (fun r e=>by subst e;exact ah rfl)
  have nk:∀{o c k:Nat} {t:Int},o=5→c<256→k<200→(t=1∧c=120∧k<I)∨(t=1∧c=112∧k<p)∨(t=2∧c=98∧k=0)∨(t=2∧c=102∧k<F)→Wp (If (((5:Int))==1) (nX [] [] (lF s ⟨5,nm c k,0,l⟩ (z,ByteArray.empty,0) (((5:Int))==1))) (nX [] [] (lF s ⟨5,nm c k,0,l⟩ (z,ByteArray.empty,0) (((5:Int))==4)))) (· = (t,ByteArray.empty,0)):=by
   intro o c k t _ hc hk hn;refine ak (fun hb=>by cases hb) (fun _=>ax (ak (fun hb=>by cases hb) (fun _=>cS (ak (fun hb=>by cases hb) (fun _=>ax (nam hc hk hn))))))
  have tab:∀{op t:Int},0<T→(op=6∧t=1)∨(op=7∧t=2)→Wp (gy s ⟨op,nm 116 0,0,l⟩ (1,ByteArray.empty,0) (1,t)) (· = (t,ByteArray.empty,0)):=by
   intro op t ht ho;refine ak (fun hb=>by cases hb) (fun _=>ak (fun _=>?_) (fun hb=>?_))
   ·refine aA (h.table ht) ?_
    unfold jD;exact au (P:=(· = (t,ByteArray.empty,0))) (ak (fun hb=>by cases hb) (fun _=>ah rfl)) (fun r e=>by subst e;exact ah rfl)
   ·rcases ho with⟨rfl,_⟩|⟨rfl,_⟩ <;> cases hb
  have y1:VR false=1:=rfl;have y2:VR true=2:=rfl;cases sh with
  |lit a b=>exact qB (by kernel_rfl)
  |now=>exact qB (by kernel_rfl)
  |var a=>exact nk (o:=5) rfl (by omega) (by dsimp only[zo]at a;omega) (by dsimp only[zo]at a;omega)
  |par a=>exact nk (o:=5) rfl (by omega) (by dsimp only[zo]at a;omega) (by dsimp only[zo]at a;omega)
  |get a=>
   obtain rfl:z=1:=h1 (by decide);have:Wp (gy s ⟨6,nm 116 0,0,l⟩ (1,ByteArray.empty,0) (1,1)) (· = (1,ByteArray.empty,0)):=tab (by dsimp only[zo]at a;omega) (by omega);obtain⟨r,e,rfl⟩:=this;refine qB (Eq.trans ?_ e)
   kernel_rfl
  |size a=>
   refine ak (fun hb=>by cases hb) (fun _=>ax (ak (fun hb=>by cases hb) (fun _=>cS (ak (fun hb=>by cases hb) (fun _=>ax (ak (fun hb=>by cases hb) (fun _=>ak (fun hb=>by cases hb) (fun _=>ak (fun _=>?_) (fun hb=>by cases hb)))))))));refine aA (h.table (by dsimp only[zo]at a;omega)) ?_;unfold jD;exact au (P:=(· = (1,ByteArray.empty,0))) (ak (fun hb=>by cases hb) (fun _=>ah rfl)) (fun r e=>by subst e;exact ah rfl)
  |neg=>obtain rfl:z=1:=h1 (by decide);exact qB (by kernel_rfl)
  |bin a b=>
   obtain rfl:z=1:=h1 (by decide);rcases op5 11 a (by omega)with rfl|rfl|rfl|rfl|rfl|rfl <;> first|omega|exact qB (by kernel_rfl)
  |tf a b=>rcases op5 2 a (by omega)with rfl|rfl|rfl|rfl|rfl|rfl <;> first|omega|exact qB (by kernel_rfl)
  |b0=>exact nk (o:=5) rfl (by omega) (by omega) (by omega)
  |flag a=>exact nk (o:=5) rfl (by omega) (by dsimp only[zo]at a;omega) (by dsimp only[zo]at a;omega)
  |has a=>
   obtain rfl:z=1:=h1 (by decide);have:Wp (gy s ⟨7,nm 116 0,0,l⟩ (1,ByteArray.empty,0) (1,2)) (· = (2,ByteArray.empty,0)):=tab (by dsimp only[zo]at a;omega) (by omega);obtain⟨r,e,rfl⟩:=this;refine qB (Eq.trans ?_ e)
   kernel_rfl
  |not=>obtain rfl:z=2:=h1 (by decide);exact qB (by kernel_rfl)
  |con a b=>
   obtain rfl:z=2:=h1 (by decide);rcases op5 22 a (by omega)with rfl|rfl|rfl|rfl|rfl|rfl <;> first|omega|exact qB (by kernel_rfl)
  |cmp a b=>
   obtain rfl:z=1:=h1 (by decide);rcases op5 16 a (by omega)with rfl|rfl|rfl|rfl|rfl|rfl <;> exact qB (by kernel_rfl)
def xW(f:bj)(c:aG):Prop:=c.fV=f∧c.uJ.FT=0
theorem Sn{x:ByteArray}{o:aG}:eK 0 x o=some (o.uJ.FT==0,o):=by
 unfold eK;exact ca (cS (ak (fun hb=>by simp at hb) (fun _=>ax (aI (ah rfl)))))
theorem aaV{c:Bool}{e:Int}{x:ByteArray}{o:aG}(h:c=true):cK c e x o=some (o.uJ.FT==0,o):=by
 subst h;unfold cK;exact ca (cS (ak (fun _=>ax (aA (by unfold cl;exact Sn) (aI (ah rfl)))) (fun hb=>by cases hb)))
theorem Qs{β:Type}{c:Bool}{e:Int}{x:ByteArray}{o:aG}{t:Nat}{l:Rn}{f:Bool×aG→Option β}{Q:β→Prop}(h:c=true)(g:Wp (f (o.uJ.FT==0,o)) Q):Wp (Bi (cl t l (cK c e x o)) f) Q :=
 aA (by unfold cl;exact aaV h) g
theorem wrp{β:Type}{x:ByteArray}{o:aG}{t:Nat}{l:Rn}{f:Bool×aG→Option β}{Q:β→Prop}(g:Wp (f (o.uJ.FT==0,o)) Q):Wp (Bi (cl t l (eK 0 x o)) f) Q :=
 aA (by unfold cl;exact Sn) g
theorem wat{β:Type}{x:ByteArray}{o:aG}{t:Nat}{l:Rn}{f:Bool×aG→Option β}{Q:β→Prop}(h:o.uJ.FT=0)(g:Wp (f (true,{ o with BI:=x })) Q):Wp (Bi (cl t l (gj x o)) f) Q:=by
 refine aA ?_ g;unfold cl gj;exact ca (aI (ah (by rw[h];rfl)))
section
variable {I T F p own:Nat} {gP:List (List Int)} {f:bj} {b:dF} {c:aG}
theorem Zc(h:Ef I T F p b.ub){u:Bool}{l:List DV}(hl:l.length≤3)(he:∀e∈l,WE (zo I T F p gP own) Ct 6 u e):gI (VR u) l b c=some c:=by
 unfold gI;refine ca (cw (fun _ s=>s=c) (by unfold m64;omega) rfl ?_ (fun s hs=>aI (ah hs)));rintro j s hj rfl;refine bJ hj (fun x x1 x2=>?_);obtain⟨e,e1,e2⟩:=TX h (he x x2) (fu:=64) (by omega);exact aA e1 (aA e2 (wrp (Qs (by simp) (ax (ah rfl)))))
theorem Tr(h:Ef I T F p b.ub){i' I' T':Nat}{r:List Int}{x:aM}(hx:Wl F gP i' I' T' r x)(r3:r.length≤3){hd m:Nat}{k:Int}{l:List DV}(hr:r[hd]? = some (m:Int))(hl:l.length≤3)(k0:0≤k)(hk:(l.length:Int)-k=m)(he:∀e∈l,WE (zo I T F p gP own) Ct 6 false e):mX x (nm 104 hd) l k b c=some c:=by
 unfold mX;have hd3:=(List.getElem?_eq_some_iff.1 hr).1;have v2:=hx.v2;refine ca (au (Au (by omega) (fun u hu=>by have:=(hx.h1 u hu).2;omega)) ?_);rintro⟨y,q⟩ (⟨rfl,⟨u,u1,u2⟩,hn⟩|⟨rfl,hn⟩)
 ·dsimp only at u2 hn ⊢
  obtain⟨j,hj,rfl⟩:=List.getElem_of_mem u2;obtain⟨pp,p2,rp,j3,DL,Gd,_⟩:=hx.hs u u1 j _ (List.getElem?_eq_getElem hj);rw[DL]at hn;have:=vG (by omega) (by omega) (by omega) (by omega) hn;obtain rfl:j=hd:=this.2;rw[hr]at rp;have hm:(m:Int)=pp:=Option.some.inj rp;refine Qs rfl (Qs ?_ (aA (by unfold cl;exact Zc h hl he) (aI (ah rfl))));rw[wrap_i64 (by omega) (by omega),hk,Gd];simp only[List.length_map,List.length_range,hm,BEq.rfl]
 ·exfalso
  obtain⟨u,u1,u2⟩:=hx.full;have hj:hd<u.bP.length:=by omega
  obtain⟨pp,p2,rp,j3,DL,Gd,_⟩:=hx.hs u u1 hd _ (List.getElem?_eq_getElem hj);exact hn u u1 _ (List.getElem_mem hj) DL
theorem Vg(hf:Dk gP f){i:Nat}{r:List Int}(hr:gP[i]? = some r):Wp (lr f.aF (cn i)) fun q=>q.2=true∧∃I T,Wl f.aR.length gP i I T r q.1:=by
 have n3:=hf.n3;have al:=hf.al;have hi:=(List.getElem?_eq_some_iff.1 hr).1;refine(yF (by omega)).imp ?_;rintro⟨x,q⟩ (⟨rfl,h1,h2⟩|⟨rfl,h1⟩)
 ·dsimp only at h1 h2 ⊢
  obtain⟨j,hj,rfl⟩:=List.getElem_of_mem h1;obtain⟨I,T,r',g⟩:=hf.cs j _ (List.getElem?_eq_getElem hj);rw[g.name]at h2;obtain rfl:j=i:=LV (by omega) (by omega) h2;have:=g.ar;rw[hr]at this;obtain rfl:=Option.some.inj this;exact⟨rfl,I,T,g⟩
 ·exfalso
  obtain⟨I,T,r',g⟩:=hf.cs i _ (List.getElem?_eq_getElem (by omega));exact h1 _ (List.getElem_mem (by omega)) g.name
theorem yI(h:Ef I T F p b.ub){d k:Nat}{t:Int}(hc:d<256)(hk:k<200)(hn:(t=1∧d=120∧k<I)∨(t=2∧d=98∧k=0)∨(t=3∧d=116∧k<T)):iU (nm d k) b c=some (t,c):=by
 unfold iU;refine ca (au (h.var hc hk hn) ?_);rintro⟨v,q⟩ ⟨h1,h2⟩;dsimp only at h1 h2;subst h1;exact ak (fun _=>aI (ah (by dsimp only;rw[h2]))) (fun hb=>by cases hb)
theorem aa9(hf:Dk gP f)(hc:xW f c)(h:Ef I T f.aR.length p b.ub){r0:List Int}(hx:Wl f.aR.length gP own I T r0 b.lQ){k:Int}{n hd:ByteArray}{t:Bool}{m:Nat}{q1 q2:Bool}{l s z:List DV}(sh:Ss (zo I T f.aR.length p gP own) k n hd t m q1 q2)(hl:l.length=m)(he:∀e∈l,WE (zo I T f.aR.length p gP own) Ct 6 t e):kJ ⟨k,n,hd,l,s,z⟩ b c=some c:=by
 have c3:=sh.c3;have i3:=h.i3;have t1:=h.t1
 have al:∀{t':Bool} {t0:Int},t0=VR t'→t=t'→gI t0 l b c=some c:=by
  intro t' t0 e1 e2;subst e1 e2;exact Zc h (by omega) he
 unfold kJ;refine ca ?_;cases sh with
 |set a=>
  refine ak (fun _=>?_) (fun hb=>by cases hb);refine aA (by unfold cl;exact yI h (t:=1) (by omega) (by dsimp only[zo]at a;omega) (by dsimp only[zo]at a;omega)) ?_;exact ak (fun _=>aA (by unfold cl;exact al (t':=false) rfl rfl) (aI (ah rfl))) (fun hb=>by cases hb)
 |Ul=>
  refine ak (fun _=>?_) (fun hb=>by cases hb);refine aA (by unfold cl;exact yI h (t:=2) (by omega) (by omega) (by omega)) ?_;exact ak (fun _=>aA (by unfold cl;exact al (t':=true) rfl rfl) (aI (ah rfl))) (fun hb=>by cases hb)
 |put a=>
  refine ak (fun hb=>by cases hb) (fun _=>cS (ak (fun _=>ax (ak (fun _=>?_) (fun hb=>by cases hb))) (fun hb=>by cases hb)));refine aA (by unfold cl;exact yI h (t:=3) (by omega) (by omega) (by dsimp only[zo]at a;omega)) ?_;exact Qs rfl (aA (by unfold cl;exact al (t':=false) rfl rfl) (aI (ah rfl)))
 |del a=>
  refine ak (fun hb=>by cases hb) (fun _=>cS (ak (fun hb=>by cases hb) (fun _=>ax (ak (fun _=>?_) (fun hb=>by cases hb)))));refine aA (by unfold cl;exact yI h (t:=3) (by omega) (by omega) (by dsimp only[zo]at a;omega)) ?_;exact Qs rfl (aA (by unfold cl;exact al (t':=false) rfl rfl) (aI (ah rfl)))
 |iff=>
  refine ak (fun hb=>by cases hb) (fun _=>cS (ak (fun hb=>by cases hb) (fun _=>ax (ak (fun hb=>by cases hb) (fun _=>ak (fun hb=>by cases hb) (fun _=>?_))))));exact cS (ak (fun _=>ax (ak (fun _=>aA (by unfold cl;exact al (t':=true) rfl rfl) (aI (ah rfl))) (fun hb=>by cases hb))) (fun hb=>by cases hb))
 |whl=>
  refine ak (fun hb=>by cases hb) (fun _=>cS (ak (fun hb=>by cases hb) (fun _=>ax (ak (fun hb=>by cases hb) (fun _=>ak (fun hb=>by cases hb) (fun _=>?_))))));exact cS (ak (fun hb=>by cases hb) (fun _=>ax (ak (fun _=>aA (by unfold cl;exact al (t':=true) rfl rfl) (aI (ah rfl))) (fun hb=>by cases hb))))
 | @send i h' c' r a1 a2 a3=>
  refine ak (fun hb=>by cases hb) (fun _=>cS (ak (fun hb=>by cases hb) (fun _=>ax (ak (fun hb=>by cases hb) (fun _=>ak (fun hb=>by cases hb) (fun _=>?_))))));refine cS (ak (fun hb=>by cases hb) (fun _=>ax (ak (fun hb=>by cases hb) (fun _=>ak (fun _=>?_) (fun hb=>by cases hb)))));rw[hc.1];have a1':gP[i]? = some r:=a1;refine au (Vg hf a1') ?_;rintro⟨x,q⟩ ⟨rfl,I',T',g⟩;have r3:=(hf.ar r (List.mem_of_getElem? a1')).2.1;exact Qs rfl (aA (by unfold cl;exact Tr h g r3 a2 (by dsimp only;omega) (by omega) (by dsimp only;omega) he) (aI (ah rfl)))
 | @aft h' c' r a1 a2 a3=>
  refine ak (fun hb=>by cases hb) (fun _=>cS (ak (fun hb=>by cases hb) (fun _=>ax (ak (fun hb=>by cases hb) (fun _=>ak (fun hb=>by cases hb) (fun _=>?_))))));refine cS (ak (fun hb=>by cases hb) (fun _=>ax (ak (fun hb=>by cases hb) (fun _=>ak (fun hb=>by cases hb) (fun _=>ak (fun _=>?_) (fun hb=>by cases hb))))));have a1':gP[own]? = some r:=a1;have:r0=r:=by have:=hx.ar;rw[a1']at this;exact(Option.some.inj this).symm
  subst this;have r3:=(hf.ar r0 (List.mem_of_getElem? a1')).2.1;exact aA (by unfold cl;exact Tr h hx r3 a2 (by dsimp only;omega) (by omega) (by dsimp only;omega) he) (aI (ah rfl))
 |store=>
  refine ak (fun hb=>by cases hb) (fun _=>cS (ak (fun hb=>by cases hb) (fun _=>ax (ak (fun hb=>by cases hb) (fun _=>ak (fun hb=>by cases hb) (fun _=>?_))))));exact cS (ak (fun hb=>by cases hb) (fun _=>ax (ak (fun hb=>by cases hb) (fun _=>ak (fun hb=>by cases hb) (fun _=>ak (fun hb=>by cases hb) (fun _=>ak (fun _=>aA (by unfold cl;exact al (t':=false) rfl rfl) (aI (ah rfl))) (fun hb=>by cases hb)))))))
 |JV a=>
  refine ak (fun hb=>by cases hb) (fun _=>cS (ak (fun hb=>by cases hb) (fun _=>ax (ak (fun hb=>by cases hb) (fun _=>ak (fun _=>?_) (fun hb=>by cases hb))))));refine aA (by unfold cl;exact yI h (t:=1) (by omega) (by dsimp only[zo]at a;omega) (by dsimp only[zo]at a;omega)) ?_;exact Qs rfl (aA (by unfold cl;exact al (t':=false) rfl rfl) (aI (ah rfl)))
 |stop=>
  refine ak (fun hb=>by cases hb) (fun _=>cS (ak (fun hb=>by cases hb) (fun _=>ax (ak (fun hb=>by cases hb) (fun _=>ak (fun hb=>by cases hb) (fun _=>?_))))));exact cS (ak (fun hb=>by cases hb) (fun _=>ax (ak (fun hb=>by cases hb) (fun _=>ak (fun hb=>by cases hb) (fun _=>ak (fun hb=>by cases hb) (fun _=>ak (fun hb=>by cases hb) (fun _=>aI (ah rfl))))))))
end
section
variable {I T p own:Nat} {gP:List (List Int)} {f:bj} {r0:List Int}
theorem acj(hf:Dk gP f)(d:Nat):∀{n:Nat} {l:List DV},WB (zo I T f.aR.length p gP own) Ct Rc d n l→n≤12→∀{fu:Nat} {b:dF} {c:aG},d<fu→xW f c→Ef I T f.aR.length p b.ub→Wl f.aR.length gP own I T r0 b.lQ→b.Dc.size≤1000→0≤b.wD→b.wD+n≤90 →
  Wp (gH fu l b c) fun q=>q.1 = { b with wD:=b.wD+n }∧xW f q.2:=by
 induction d with
 |zero=>
  rintro n l ⟨rfl,rfl⟩ _ fu b c hd hc hs hx hp h0 h1;obtain⟨g,rfl⟩:∃g,fu=g+1:=⟨fu-1,by omega⟩;unfold gH jx;refine eI (fun _ s=>s=(b.ub,b.lQ,b.Dc,b.wD,c)) (by unfold m64;simp) rfl (fun j _ hj _=>by simp at hj;omega) ?_;rintro s rfl;exact aI (ah ⟨by simp,hc⟩)
 |succ d ih=>
  intro n l h hn fu b c hd hc hs hx hp h0 h1;obtain⟨g,rfl⟩:∃g,fu=g+1:=⟨fu-1,by omega⟩;have hl:=h.len;obtain⟨m,m0,m1,m2,m3⟩:=KL h (fun _ _=>WF.pos);unfold gH jx;refine eI (fun j s=>s.1=b.ub∧s.2.1=b.lQ∧s.2.2.1=b.Dc∧s.2.2.2.1=b.wD+m j∧xW f s.2.2.2.2) (by unfold m64;omega) ⟨rfl,rfl,rfl,by dsimp only;omega,hc⟩ ?_ ?_
  ·rintro j ⟨a1,a2,a3,a4,a5⟩ hj ⟨e1,e2,e3,e4,hk⟩
   dsimp only at e1 e2 e3 e4 hk ⊢;subst e1 e2 e3 e4;refine bJ hj (fun x x1 x2=>?_);obtain⟨a,ha,hw⟩:=m3 j x x1;have b1:=m2 j (by omega);have b2:=m2 (j+1) (by omega);obtain⟨sh,Pu,he,ht,hz,hp1,hq1⟩:=hw
   rename_i kk DL hh t cc aa bb pp qq es ss zs
   refine aA (zl _) ?_;refine au (Cd (n:=b.wD+m j) (by omega) (by omega)) (fun st yL=>?_);refine aK (by omega) (wat hk.2 (ak (fun hb=>by cases hb) (fun _=>?_)));rw[wrap_i64 (n:=b.wD+m j+1) (by omega) (by omega)];have Ek:xW f { a5 with BI:=b.Dc++st }:=hk;refine aA (by unfold cl;exact aa9 (b:={ b with wD:=b.wD+m j+1 }) hf Ek hs hx sh Pu he) ?_;refine au (aQ (ih ht (by omega) (by omega) Ek hs hx hp (by dsimp only;omega) (by dsimp only;omega))) ?_;rintro⟨q1,q2⟩ ⟨rfl,ZT⟩;refine au (aQ (ih hz (by omega) (by omega) ZT hs hx hp (by dsimp only;omega) (by dsimp only;omega))) ?_;rintro⟨q1,q3⟩ ⟨rfl,hk3⟩;exact ax (ah ⟨rfl,rfl,rfl,by dsimp only;omega,hk3⟩)
  ·rintro⟨a1,a2,a3,a4,a5⟩ ⟨e1,e2,e3,e4,hk⟩
   dsimp only at e1 e2 e3 e4 hk;subst e1 e2 e3;rw[Int.toNat_natCast,m1]at e4;exact aI (ah ⟨by dsimp only;rw[e4],hk⟩)
theorem Yj(hf:Dk gP f){x:aM}(hx:Wl f.aR.length gP own I T r0 x){k:Nat}{h:br}(hh:Ja I T f.aR.length gP own r0 k h){v:ByteArray}(hv:v.size≤100){c:aG}(hc:xW f c):Wp (my x h v c) (xW f):=by
 obtain⟨p,p2,rp,k3,DL,Gd,a,a12,hb⟩:=hh;have Wn:h.dM.length=p:=by rw[Gd];simp
 have i3:=hx.i3;have t1:=hx.t1;unfold my;refine cw (fun _ s=>s=c) (by unfold m64;omega) rfl ?_ ?_
 ·rintro j s hj rfl
  refine bJ hj (fun y y1 y2=>?_)
  have hy:y=nm 112 j:=by
   rw[Gd,List.getElem?_map]at y1;rw[List.getElem?_range (by omega)]at y1;exact(Option.some.inj y1).symm
  subst hy;rw[hx.vars];refine au (GN i3 t1 (by omega) (by omega)) ?_;rintro⟨vr,q⟩ (⟨_,h2⟩|⟨rfl,h2⟩)
  ·omega
  rw[hc.1];refine au (ia (fun _=>EZ hf.f2 hf.fn (by omega) (by omega)) (fun h=>by cases h)) ?_;rintro r (⟨_,h3⟩|⟨rfl,_⟩)
  ·omega
  refine aK (fun _=>by unfold eN;omega) ?_;refine au (P:=(· = false)) (ia (fun _=>(OA (by rw[List.length_take];omega)).imp ?_) (fun h=>by cases h)) ?_
  ·rintro r (⟨_,h4⟩|⟨rfl,_⟩)
   ·exfalso
    rw[Int.toNat_natCast]at h4;obtain⟨i,hi,e⟩:=List.getElem_of_mem h4;rw[List.length_take]at hi;rw[List.getElem_take]at e;have:h.dM[i]? = some (nm 112 j):=by rw[List.getElem?_eq_getElem (by omega),e]
    rw[Gd,List.getElem?_map,List.getElem?_range (by omega)]at this;have:=vG (by omega) (by omega) (by omega) (by omega) (Option.some.inj this);omega
   ·rfl
  rintro r rfl;exact Qs rfl (ax (ah rfl))
 ·rintro s rfl
  have z1:x.bn.size=1:=by rw[hx.name];rfl
  have z2:h.bn.size=2:=by rw[DL];rfl
  refine aK (by simp only[ByteArray.size_append,Af,List.length_cons,List.length_nil];omega) (aK (by simp only[ByteArray.size_append,Af,List.length_cons,List.length_nil];omega) (aK (by simp only[ByteArray.size_append,Af,List.length_cons,List.length_nil];omega) (aK (by simp only[ByteArray.size_append,Af,List.length_cons,List.length_nil];omega) (aK (by simp only[ByteArray.size_append,Af,List.length_cons,List.length_nil];omega) ?_))));rw[hc.1];refine au (aQ (acj (p:=p) (r0:=r0) hf 4 hb a12 (by omega) hc ⟨i3,t1,hf.f2,p2,hx.vars,rfl,hf.fn,Gd⟩ hx (by simp only[ByteArray.size_append,Af,List.length_cons,List.length_nil];omega) (Int.le_refl _) (by dsimp only;omega))) ?_;rintro⟨q1,q2⟩ ⟨_,hk⟩;exact aI (ah hk)
end
end Go.Proofs.YtpeihknododmlaaGreatDoor
