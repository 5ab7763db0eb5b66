/- Part 10 of what the claim leans on. -/
import Derived.Test.YtaafmkmdfcgeaaaGreatDoorRBv9
set_option maxRecDepth 100000
set_option maxHeartbeats 4000000
set_option linter.unusedVariables false
set_option linter.unusedSimpArgs false
noncomputable section
namespace Go.Proofs.YtaafmkmdfcgeaaaGreatDoor
open Go.Proofs.Tryz
open Go.RowKit
def Rx(s:List RRec×Int)(x:gv):Option (List RRec×Int) :=if x.aje=true then (HX x.uM).bind λr=>if (r.2==0)=true then Hu (dK 248 (s.1.length+List.length [r.1])) (some (s.1++[r.1],s.2))else some (s.1,IntKind.wrap .i64 (s.2+x.akO)) else some (s.1,IntKind.wrap .i64 (s.2+x.akO))
def acX{α β:Type}(f:β->α->Option β):β->List α->Option β
 |s,[]=>some s
 |s,x::xs=>(f s x).bind λs'=>acX f s' xs
theorem RU{α β:Type}{f:β->α->Option β}:∀{xs:List α} {s r:β},acX f s xs=some r->∃g:Nat->β,g 0=s∧(∀k x,xs[k]? = some x->f (g k) x=some (g (k+1)))∧g xs.length=r
 |[],s,r,h=>⟨λ_=>s,rfl,λk x hx=>by simp at hx,Option.some.inj h⟩
 |x::xs,s,r,h=>by
  obtain⟨s',h1,h2⟩:=pt h;obtain⟨g,g0,g1,g2⟩:=RU h2;refine⟨λk=>match k with|0=>s|k+1=>g k,rfl,λk y hy=>?_,g2⟩;cases k with
  |zero=>simp at hy;subst hy;simp only[g0];exact h1
  |succ k=>exact g1 k y (by simpa using hy)
def wV(p:List Int):Option (List RRec×Int) :=Hu (dK 1 (List.length ([]:List Int)+List.length p))<|(Mo (([]:List Int)++p) ((([]:List Int)++p).length+1) 0).bind λparts=>acX Rx ([],0) parts
theorem IB{x0:List Int}{r:List RRec×Int}(hM:wV x0=some r):br prog 12 [.sl 1 (List.map (DV.int .u8) x0)] (.gh [.sl 29 (List.map RRec.dv r.1),.int .i64 r.2]):=by
 unfold wV at hM;obtain⟨h1,hM⟩:=mP hM;obtain⟨parts,hP,hM⟩:=pt hM;obtain⟨g,g0,g1,g2⟩:=RU hM;refine br.ofD func12 ntmps12 rfl rfl rfl rfl ?_;refine adi (dV (.cons (DT rfl)<|.cons (DT rfl)<|.nil _) bp bp ?_);refine akU ?_;refine adi (dV (.cons (fU rfl)<|.cons (Fa (akh h1) rfl (lH.refl _) rfl)<|.nil _) bp bp ?_);refine ahW ?_
 refine ahV (UH hP) [(2,.ref 9001 0),(3,.ref 9002 0),(8,.CG 52 [.iv [.sl 1 (List.map (DV.int .u8) (([]:List Int)++x0))]])]
  (λk=>[(9001,some (.bJ 59 [.row 7])),(9002,some (.bJ 3 [.int .i64 (g k).2])),(7,some (.row 64 29 (List.map RRec.dv (g k).1)))]) [9001,9002,7] ?_ rfl rfl ?_ aV aV aV ?_ ?_
 .rw[g0]
  exact(Uk (id:=2) (rid:=7) (j:=0) 64 29 rfl rfl rfl rfl).trans (jP.of (λi=>bif Nat.beq i 9001 then 2 else bif Nat.beq i 9002 then 3 else i) (.cons rfl (iy.refl _) (.cons rfl (iy.refl _) (.cons rfl (iy.refl _) .nil))) (.cons rfl (.refl _) (.cons rfl (.refl _) (.cons rfl (.refl _) .nil))) rfl rfl rfl)
 .intro t d hl i hi
  rw[eK]at hl
  split at hl
  .injection hl with hl;subst hl;simp[DV.ids]at hi;omega
  .rw[eK]at hl
   split at hl
   .injection hl with hl;subst hl;simp[DV.ids]at hi;omega
   .rw[eK]at hl
    split at hl
    .injection hl with hl;subst hl;simp[DV.ids,vv]at hi
    .cases hl
 .intro k d R R' hk
  rw[List.getElem?_map]at hk;obtain⟨x,hx,rfl⟩:=Option.map_eq_some_iff.1 hk;have hs:=g1 k x hx;generalize g (k+1)=s' at hs |-;generalize g k=s at hs |-;obtain⟨l,lost⟩:=s;unfold Rx at hs;dsimp only at hs |-;refine dV (.cons (DT rfl)<|.cons (FR rfl rfl rfl rfl rfl rfl rfl)<|.nil _) bp bp ?_;refine⟨rfl,?_⟩;refine vM ?_;refine fK ?_;refine fK ?_;refine dV (.cons (xg rfl)<|.cons (rf rfl rfl rfl)<|.nil _) bp bp ?_;refine qc _ rfl (λhb=>?_) (λhb=>?_)
  .replace hs:=(AF hs).1 hb
   obtain⟨y,hy,hs⟩:=pt hs;refine fK ?_;refine dV (.cons (xg rfl)<|.cons (rf rfl rfl rfl)<|.cons (Fa (Lp.h hy) rfl (lH.refl _) rfl)<|.cons (fU rfl)<|.cons (AH rfl rfl)<|.cons (AH rfl rfl)<|.cons (DT rfl)<|.cons (FR rfl rfl rfl rfl rfl rfl rfl)<|.cons (eY rfl)<|.nil _) bp bp ?_;refine fK ?_;refine dV (.cons (fU rfl)<|.cons (AG rfl rfl rfl)<|.nil _) bp bp ?_;refine qc _ rfl (λAp=>?_) (λAp=>?_)
   .replace hs:=(AF hs).1 Ap
    obtain⟨h3,hs⟩:=mP hs;obtain rfl:=Option.some.inj hs;refine fK ?_;refine dV (.cons (rf rfl rfl rfl)<|.cons (JP rfl rfl rfl rfl)<|.cons (uU RRec.dv ([y.1]:List RRec) rfl rfl rfl rfl rfl rfl rfl)<|.cons (pL [y.1] h3 rfl rfl rfl (Src.row rfl))<|.cons (wC rfl rfl rfl rfl rfl)<|.nil _) bp bp ?_;refine HA ?_;refine⟨rfl,?_⟩;exact jP.of (λi=>bif Nat.beq i 7 then 23 else i) .nil (.cons rfl (.refl _) (.cons rfl (.refl _) (.cons rfl (.refl _) (.cons rfl (.refl _) (.cons rfl (.refl _) .nil))))) rfl rfl rfl
   .replace hs:=(AF hs).2 Ap
    obtain rfl:=Option.some.inj hs;refine sW ?_;refine dV (.cons (rf rfl rfl rfl)<|.cons (xg rfl)<|.cons (rf rfl rfl rfl)<|.cons (AG rfl rfl rfl)<|.cons (wC rfl rfl rfl rfl rfl)<|.nil _) bp bp ?_;refine⟨rfl,?_⟩;exact jP.of (λi=>i) .nil (.cons rfl (.refl _) (.cons rfl (.refl _) (.cons rfl (.refl _) (.cons rfl (.refl _) (.cons rfl (.refl _) .nil))))) rfl rfl rfl
  .replace hs:=(AF hs).2 hb
   obtain rfl:=Option.some.inj hs;refine sW ?_;refine dV (.cons (rf rfl rfl rfl)<|.cons (xg rfl)<|.cons (rf rfl rfl rfl)<|.cons (AG rfl rfl rfl)<|.cons (wC rfl rfl rfl rfl rfl)<|.nil _) bp bp ?_;refine⟨rfl,?_⟩;exact jP.of (λi=>i) .nil (.cons rfl (.refl _) (.cons rfl (.refl _) (.cons rfl (.refl _) (.cons rfl (.refl _) (.cons rfl (.refl _) .nil))))) rfl rfl rfl
 .rw[List.length_map,g2]
  refine fK ?_;refine KA mixed (.cons (rf rfl rfl rfl)<|.cons (rf rfl rfl rfl)<|.cons (wC rfl rfl rfl rfl rfl)<|.cons (wC rfl rfl rfl rfl rfl)<|.nil _) bp bp bp ?_;refine sy (jP.freeze (id:=7) rfl) ?_;refine sX ⟨_,.r2 (.cell rfl rfl (.sc qe.h rfl)) (.cell rfl rfl (.sc qe.h rfl)),iy.refl _,rfl⟩
instance aaW{x0:List Int}:MC (wV x0) λr=>br prog 12 [.sl 1 (List.map (DV.int .u8) x0)] (.gh [.sl 29 (List.map RRec.dv r.1),.int .i64 r.2]):=⟨λhM=>IB hM⟩
attribute [local irreducible] gL dH br gY jP dK fC kY
def Kv.cs(x:Nat->Int):List DV:=[.int .u64 (x 0),.int .u64 (x 1),.int .u64 (x 2),.int .u64 (x 3),.int .u64 (x 4),.int .u64 (x 5),.int .u64 (x 6),.int .u64 (x 7),.int .u64 (x 8)]
def sM:Option Bool :=eE 10 (bA 9 AEv.dv) [(AEv.mk 0 0 4 0 0 0 0 0 []),(AEv.mk 0 0 8 1 0 0 0 0 []),(AEv.mk 1 1 5 0 0 0 0 0 [])] λv1=>wk [.z 10]<|Bi (oh v1 2) λv3=>Bi (gb (!((v3.2 != 0)||((v3.1.length:Int) != 3))) (VClk.mk (arr 0 [])) (idx v3.1 1)) λv5=>Bi (gb (!((v3.2 != 0)||((v3.1.length:Int) != 3))) (ByteArray.empty) (VClk_Text v5)) λv7=>Bi (gb (!(((v3.2 != 0)||((v3.1.length:Int) != 3))||(!(v7.toList==(ByteArray.mk #[91,50,93]).toList)))) (VClk.mk (arr 0 [])) (idx v3.1 2)) λv9=>Bi (gb (!(((v3.2 != 0)||((v3.1.length:Int) != 3))||(!(v7.toList==(ByteArray.mk #[91,50,93]).toList)))) (ByteArray.empty) (VClk_Text v9)) λv11=>If ((((v3.2 != 0)||((v3.1.length:Int) != 3))||(!(v7.toList==(ByteArray.mk #[91,50,93]).toList)))||(!(v11.toList==(ByteArray.mk #[91,50,44,49,93]).toList))) (some false)<|Bi (Dg v1 2 0 (og.mk 0 1)) λkG=>Bi (wV kG.1) λlL=>Bi (gb (((kG.2==0)&&(lL.2==0))&&((lL.1.length:Int)==2)) (RRec.mk 0 0 (VClk.mk (arr 0 [])) 0 (AEv.mk 0 0 0 0 0 0 0 0 []) 0) (idx lL.1 0)) λoi=>Bi (gb ((((kG.2==0)&&(lL.2==0))&&((lL.1.length:Int)==2))&&(oi.zy==2)) (RRec.mk 0 0 (VClk.mk (arr 0 [])) 0 (AEv.mk 0 0 0 0 0 0 0 0 []) 0) (idx lL.1 0)) λxa=>Bi (gb (((((kG.2==0)&&(lL.2==0))&&((lL.1.length:Int)==2))&&(oi.zy==2))&&(xa.yM==2)) (RRec.mk 0 0 (VClk.mk (arr 0 [])) 0 (AEv.mk 0 0 0 0 0 0 0 0 []) 0) (idx lL.1 1)) λv21=>Bi (gb ((((((kG.2==0)&&(lL.2==0))&&((lL.1.length:Int)==2))&&(oi.zy==2))&&(xa.yM==2))&&(v21.zy==3)) (RRec.mk 0 0 (VClk.mk (arr 0 [])) 0 (AEv.mk 0 0 0 0 0 0 0 0 []) 0) (idx lL.1 1)) λuj=>some (((((((kG.2==0)&&(lL.2==0))&&((lL.1.length:Int)==2))&&(oi.zy==2))&&(xa.yM==2))&&(v21.zy==3))&&(uj.acR==2))
instance:MC (sM) λr=>br prog 4 [] (.bool r):=.p func4 ntmps4
def nN(x0:de):Option ((List AEv)×Int×Bool) :=Bi (pj x0) λv2=>If (!v2.2.2) (some (([]:List AEv),0,false))<|Bi (cl 20 [(5000,1001)] (yA v2.1)) λv4=>sm v4 (λaaE=>Ck (fC (aaE.xX.length) 0 (if 120<(aaE.xX.length:Int)then 120 else(aaE.xX.length:Int)))<|Bi (fj v2.1.eX) λv7=>some ((List.take (Int.toNat (if 120<(aaE.xX.length:Int)then 120 else(aaE.xX.length:Int))) aaE.xX),v7,true)) λaoP=>sm aoP (λaL0=>some (([]:List AEv),0,false)) λaoQ=>sm aoQ (λaL1=>some (([]:List AEv),0,false)) λaoR=>sm aoR (λaL2=>some (([]:List AEv),0,false)) λaL3=>some (([]:List AEv),0,false)
instance Mp{x0}:MC (nN x0) λr=>br prog 5 [.agg (Jp x0)] (.gh [.L 9 AEv.dv r.1,.I r.2.1,.bool r.2.2]):=.p func5 ntmps5
def qA(x0:AEv)(x1:AEv):Option Bool :=some (((((x1.bC==8)&&((x0.bC==5)||((x0.bC==7)&&(x0.gD==5))))&&(x0.aN==x1.lW))&&(x0.lW==x1.aN))&&(x0.gN==x1.gN))
instance Ln{x0 x1}:MC (qA x0 x1) λr=>br prog 18 [.agg (AEv.cs x0),.agg (AEv.cs x1)] (.bool r):=.p func18 ntmps18
@[reducible] def mM(x0:List AEv)(v5:AEv)(a11:Int)(a12:Int)(Lb:Int):Option (xy (Int×Int×Int) (Int×Int)) :=Bi (idx x0 a12) λmA=>Bi (qA v5 mA) λlI=>If lI (nX [] [(1002,1004),(1003,1005)] (some (.next (Lb,a12,(IntKind.wrap .i64 (a12+1))))))<|nX [] [(1002,1004),(1003,1005)] (some (.next (Lb,a11,(IntKind.wrap .i64 (a12+1)))))
def pg(x0:List AEv):Option (List (List Bool)) :=fL ([]:List (List Bool)) 15 [] [0,13,14] [] (λ_ t=>(3,.row 1001)::t) (λs t=>(1001,some (.R 52 1 (bA 1 DV.bool) s))::t) [.r 3 1010 52 1] [(1001,1010)] m64 (x0.length:Int) (λk1 s3=>Bi (idx x0 (k1:Int)) λv5=>Ck (kY 1 (x0.length:Int) (x0.length:Int))<|eE 22 DV.bool false λ_=>Bi (idx (List.replicate (Int.toNat (x0.length:Int)) false) (k1:Int)) λv8=>eE 25 DV.bool true λv9=>wL (E:=Int×Int) ((-1),(-1),0) [] [0,4,5,13,14,15] [5] (λs t=>(3,.row 1002)::(6,.row 1003)::(7,.I s.1)::(8,.I s.2.1)::(9,.I s.2.2)::t) (λ_ t=>(1002,some (.R 52 1 (bA 1 DV.bool) s3))::(1003,some (.R 4 1 DV.bool (List.set (List.replicate (Int.toNat (x0.length:Int)) false) (Int.toNat (k1:Int)) v9)))::t) [] [(1002,1001),(1003,22)] (λpD=>If (decide (pD.2.2<(k1:Int))) (jn (mM x0 v5 pD.2.1 pD.2.2) 11 [] [0,4,5,8,9,13,14,15] [5] (λs t=>(3,.row 1004)::(6,.row 1005)::(7,.I s)::t) (λ_ t=>(1004,some (.R 52 1 (bA 1 DV.bool) s3))::(1005,some (.R 4 1 DV.bool (List.set (List.replicate (Int.toNat (x0.length:Int)) false) (Int.toNat (k1:Int)) v9)))::t)<|Bi (idx x0 pD.2.2) λv21=>If (v21.aN==v5.aN) (nX [] [(1004,1002),(1005,1003)] (mM x0 v5 pD.2.1 pD.2.2 pD.2.2))<|nX [] [(1004,1002),(1005,1003)] (mM x0 v5 pD.2.1 pD.2.2 pD.1))<|some (.done (pD.1,pD.2.1))) λe41=>eE 49 (bA 1 (DV.int .i64)) [e41.1,e41.2] λuQ=>fL (List.set (List.replicate (Int.toNat (x0.length:Int)) false) (Int.toNat (k1:Int)) v9) 51 [] [0,4,13,14,15,50] [] (λ_ t=>(3,.row 1006)::(6,.row 1007)::(49,.L 1 (DV.int .i64) uQ)::t) (λs t=>(1006,some (.R 52 1 (bA 1 DV.bool) s3))::(1007,some (.R 4 1 DV.bool s))::t) [.z 49] [(1006,1002),(1007,1003)] m64 (uQ.length:Int) (λk23 Yy=>Bi (idx uQ (k23:Int)) λzJ=>wL (E:=(List Bool)) (Yy,0) [] [0,4,11,13,14,15,49,50,51] [] (λs t=>(3,.row 1008)::(6,.row 1009)::(12,.I s.2)::t) (λs t=>(1008,some (.R 52 1 (bA 1 DV.bool) s3))::(1009,some (.R 4 1 DV.bool s.1))::t) [] [(1008,1006),(1009,1007)] (λyX=>If ((decide (0<=zJ))&&(decide (yX.2<(k1:Int)))) (Bi (idx yX.1 yX.2) λCt=>Bi (gb (!Ct) [] (idx s3 zJ)) λCu=>Bi (gb (!Ct) false (idx Cu yX.2)) λHG=>eE 79 DV.bool (Ct||HG) λAY=>nX [] [] (some (.next ((List.set yX.1 (Int.toNat yX.2) AY),(IntKind.wrap .i64 (yX.2+1))))))<|some (.done yX.1)) λe40=>nX [] [(1006,1008),(1007,1009)] (some e40)) λYy=>wk [.z 1007]<|eE 83 (bA 1 (bA 1 DV.bool)) [Yy] λxz=>Ck (dK 24 (s3.length+List.length xz))<|nX [] [(1001,84)] (some (s3++xz))) λs3=>wk [.z 1001]<|some s3
instance Qo{x0}:MC (pg x0) λr=>br prog 7 [.L 9 AEv.dv x0] (.L 1 (bA 1 DV.bool) r):=.p func7 ntmps7
def VClk_Get(x0:VClk)(x1:Int):Option Int :=If ((decide (x1<0))||(decide (16<=x1))) (some 0)<|Ck (oO 16 x1)<|ea 13 (λx=>[(DV.int .u64) x]) x0.ei<|some (x0.ei (Int.toNat x1))
instance VClk_Get_c{x0 x1}:MC (VClk_Get x0 x1) λr=>br prog 8 [.agg (VClk.cs x0),.I x1] (.int .u64 r):=.p func8 ntmps8
def lA(x0:de):Option Bool :=Bi (sM) λv2=>If (!v2) (some false)<|Bi (nN x0) λv4=>If (!v4.2.2) (some false)<|Ck (fC (v4.1.length) 0 (if 40<(v4.1.length:Int)then 40 else(v4.1.length:Int)))<|Bi (oh (List.take (Int.toNat (if 40<(v4.1.length:Int)then 40 else(v4.1.length:Int))) v4.1) v4.2.1) λv7=>If ((v7.2 != 0)||((v7.1.length:Int) != (List.length (List.take (Int.toNat (if 40<(v4.1.length:Int)then 40 else(v4.1.length:Int))) v4.1):Int))) (some false)<|Bi (pg (List.take (Int.toNat (if 40<(v4.1.length:Int)then 40 else(v4.1.length:Int))) v4.1)) λv9=>fO (E:=Bool) (arr 0 []) 46 [] [3,6,8,9,45] [] i2 (λs t=>(9,some (.bJ 41 (Kv.cs s)))::t) [] [] m64 (List.length (List.take (Int.toNat (if 40<(v4.1.length:Int)then 40 else(v4.1.length:Int))) v4.1):Int) (λTj EK=>Bi (idx (List.take (Int.toNat (if 40<(v4.1.length:Int)then 40 else(v4.1.length:Int))) v4.1) (Tj:Int)) λll=>Ck (oO 9 ll.aN)<|ea 54 (λx=>[(DV.int .u64) x]) EK<|Ck (oO 9 ll.aN)<|ea 57 (λx=>[(DV.int .u64) x]) EK<|eb 57 (IntKind.wrap .u64 ((EK (Int.toNat ll.aN))+1))<|Bi (idx v7.1 (Tj:Int)) λlI=>Bi (VClk_Get lI ll.aN) λv20=>Ck (oO 9 ll.aN)<|ea 73 (λx=>[(DV.int .u64) x]) (tP EK (Int.toNat ll.aN) (IntKind.wrap .u64 ((EK (Int.toNat ll.aN))+1)))<|If (v20 != ((tP EK (Int.toNat ll.aN) (IntKind.wrap .u64 ((EK (Int.toNat ll.aN))+1))) (Int.toNat ll.aN))) (some (.done false))<|fO (E:=Bool) () 78 [] [3,6,8,9,10,45,46,77] [9] i2 i2 [] [] m64 (List.length (List.take (Int.toNat (if 40<(v4.1.length:Int)then 40 else(v4.1.length:Int))) v4.1):Int) (λk22 _=>Bi (gb ((k22:Int) != (Tj:Int)) (VClk.mk (arr 0 [])) (idx v7.1 (k22:Int))) λua=>Bi (gb ((k22:Int) != (Tj:Int)) (0) (pH ua lI)) λvV=>Bi (gb (((k22:Int) != (Tj:Int))&&(decide ((k22:Int)<(Tj:Int)))) [] (idx v9 (Tj:Int))) λzJ=>Bi (gb (((k22:Int) != (Tj:Int))&&(decide ((k22:Int)<(Tj:Int)))) false (idx zJ (k22:Int))) λv31=>If (((k22:Int) != (Tj:Int))&&((vV==2) != ((decide ((k22:Int)<(Tj:Int)))&&v31))) (some (.done false))<|nX [] [] (some (.next ()))) fun
   |.next _=>nX [] [] (some (.next (tP EK (Int.toNat ll.aN) (IntKind.wrap .u64 ((EK (Int.toNat ll.aN))+1)))))
   |.done r=>some (.done r)) fun
  |.next EK=>some true
  |.done r=>some r
instance vQ{x0}:MC (lA x0) λr=>br prog 3 [.agg (Jp x0)] (.bool r):=.p func3 ntmps3
end Go.Proofs.YtaafmkmdfcgeaaaGreatDoor
namespace Go.Proofs.YtaafmkmdfcgeaaaGreatDoor
open Go.Proofs.Tryz
def toI:Option Nat->Int
 |none=>-1
 |some i=>(i:Int)
def vj(n:Nat)(f:Nat->Bool):List Bool:=(List.range n).map f
theorem De(n:Nat)(f:Nat->Bool):(vj n f).length=n:=by simp[vj]
theorem Df{n:Nat}{f:Nat->Bool}{i:Nat}(h:i<n):(vj n f)[i]? = some (f i):=by simp[vj,h]
theorem Zf(n:Nat)(f:Nat->Bool)(i:Nat):(vj n f).getD i false=(decide (i<n)&&f i):=by
 rw[List.getD_eq_getElem?_getD]
 by_cases h:i<n
 .rw[Df h];simp[h]
 .rw[List.getElem?_eq_none VJ];simp[h]
theorem JH{n:Nat}{f g:Nat->Bool}(h:∀i,i<n->f i=g i):vj n f=vj n g:=by
 unfold vj;exact List.map_congr_left λi hi=>h i (List.mem_range.1 hi)
theorem Rr{n:Nat}{f:Nat->Bool}{i:Nat}{b:Bool}:(vj n f).set i b=vj n (λx=>if x=i then b else f x):=by
 apply List.ext_getElem?;intro j
 by_cases hj:j<n
 .rw[Df hj]
  by_cases e:j=i
  .subst e
   rw[List.getElem?_set_self (by rw[De];exact hj)];simp
  .rw[List.getElem?_set_ne ah,Df hj];simp[e]
 .rw[List.getElem?_eq_none (by rw[List.length_set,De];omega),List.getElem?_eq_none VJ]
theorem UM(n:Nat):List.replicate n false=vj n (λ_=>false):=by
 apply List.ext_getElem?;intro j
 by_cases hj:j<n
 .rw[Df hj];simp[hj]
 .rw[List.getElem?_eq_none iC,List.getElem?_eq_none VJ]
def cell(out:List (List Bool))(b i:Nat):Bool:=(out.getD b []).getD i false
structure PQ(l:List AEv)(k:Nat)(out:List (List Bool)):Prop where
 len:out.length=k
 rows:∀r∈out,r.length=l.length
 at':∀j,j<k->∀i,cell out j i=(decide (i=j)||(decide (i<j)&&((vS l j).any (λb=>cell out b i)||(xc l j).any (λb=>cell out b i))))
theorem Yh{l:List AEv}{j i:Nat}(h:vS l j=some i):i<j:=by
 unfold vS at h
 split at h
 .cases h
 .exact(uB h).1
theorem Om{l:List AEv}{j i:Nat}(h:xc l j=some i):i<j:=by
 unfold xc at h
 split at h
 .cases h
 .exact(uB h).1
theorem EG{o:Option Nat}{f g:Nat->Bool}(h:∀b,o=some b->f b=g b):o.any f=o.any g:=by
 cases o with
 |none=>rfl
 |some b=>exact h b rfl
theorem alm(e x:AEv):qA e x=some (SJ e x):=rfl
theorem WX{l:List AEv}{k:Nat}(hl:l.length<=100000000000)(hk:k<l.length){out:List (List Bool)}(avz:∀r∈out,r.length=l.length)(ho:out.length=k)(o:Option Nat)(hol:∀b,o=some b->b<k)(f:Nat->Bool){u ke kh:List Nat}{ne:List Bool×Int->Ev->Ev}{nh:List Bool×Int->eW->eW}{w:List Wk}{L:Rn}{Q:List Bool->Prop}{w':List Wk}{L':Rn}
  (hQ:Q (vj l.length (λi=>f i||(decide (i<k)&&o.any (λb=>cell out b i))))) :
  Wp (wL (vj l.length f,(0:Int)) u ke kh ne nh w L (λyX=>
   If ((decide (0<=toI o))&&(decide (yX.2<(k:Int)))) (
    Bi (idx yX.1 yX.2) λCt=>
    Bi (gb (!Ct) [] (idx out (toI o))) λCu=>
    Bi (gb (!Ct) false (idx Cu yX.2)) λHG=>
    eE 79 DV.bool (Ct||HG) λAY=>
    nX [] [] (some (xy.next ((List.set yX.1 (Int.toNat yX.2) AY),(IntKind.wrap .i64 (yX.2+1))))))<|
   some (.done yX.1)) λe40=>nX w' L' (some e40)) Q:=by
 refine jR (λs=>∃i:Nat,i<=k∧(o=none->i=0)∧s=(vj l.length (λx=>f x||(decide (x<i)&&o.any (λb=>cell out b x))),(i:Int))) (λs=>k-s.2.toNat) ⟨0,Nat.zero_le _,λ_=>rfl,aR⟩ bB ?_;rintro _ ⟨i,hi,h0,rfl⟩;dsimp only;refine aq (λhb=>?_) (λhb=>aj (ay (aj ?_)))
 .simp only[Bool.and_eq_true,decide_eq_true_eq]at hb
  have hik:i<k:=ah;have hil:i<l.length:=ah;cases o with
  |none=>simp[toI]at hb
  |some b=>
   have hbk:=hol b rfl;refine aF (x:=f i) (by rw[fW,Df hil];simp) ?_;have hw:IntKind.wrap .i64 ((i:Int)+1)=((i+1:Nat):Int):=aem
   have aiG:∀v:Bool,(f i||v)=(f i||cell out b i)->List.set (vj l.length (λx=>f x||(decide (x<i)&&(some b).any (λb=>cell out b x)))) (Int.toNat (i:Int)) (f i||v)=vj l.length (λx=>f x||(decide (x<i+1)&&(some b).any (λb=>cell out b x))):=by
    intro v hv;rw[hv,Int.toNat_natCast,Rr];refine JH λx hx=>?_
    by_cases e:x=i
    .subst e;simp
    .by_cases e2:x<i
     .simp[e,e2,show x<i+1 by omega]
     .simp[e,e2,show ¬x<i+1 by omega]
   obtain⟨row,IQ⟩:∃row,out[b]? = some row:=⟨out[b]' ah,List.getElem?_eq_getElem ah⟩;have hrl:=avz row (List.mem_of_getElem? IQ)
   have KK:row[i]? = some (cell out b i):=by
    unfold cell;rw[List.getD_eq_getElem?_getD (l:=out),IQ];simp only[Option.getD_some];rw[List.getD_eq_getElem?_getD,List.getElem?_eq_getElem ah];rfl
   cases hf:f i with
   |true=>
    rw[hf]at aiG;refine aF (x:=[]) (by simp[gb]) (aF (x:=false) (by simp[gb]) (aX (ay (aj ⟨⟨i+1,ah,(λh=>dI),?_⟩,?_⟩))))
    .rw[hw,aiG false aR]
    .rw[hw];dsimp only;omega
   |false=>
    rw[hf]at aiG;refine aF (x:=row) (by simp only[gb,Bool.not_false,if_true];rw[show toI (some b)=(b:Int) from rfl,fW,IQ]) (aF (x:=cell out b i) (by simp only[gb,Bool.not_false,if_true];rw[fW,KK]) (aX (ay (aj ⟨⟨i+1,ah,(λh=>dI),?_⟩,?_⟩))))
    .rw[hw,aiG _ rfl]
    .rw[hw];dsimp only;omega
 .have:vj l.length (λx=>f x||(decide (x<i)&&o.any (λb=>cell out b x)))=vj l.length (λi=>f i||(decide (i<k)&&o.any (λb=>cell out b i))):=by
   cases o with
   |none=>simp
   |some b=>
    have:i=k:=by
     rcases Nat.lt_or_ge i k with q|q
     .have h2:(i:Int)<(k:Int):=by omega
      have h1:(0:Int)<=toI (some b):=by show(0:Int)<=(b:Int);omega
      rw[decide_eq_true h1,decide_eq_true h2]at hb;cases hb
     .omega
    rw[this]
  rw[this];exact hQ
theorem aat{l:List AEv}(hl:l.length<=100000000000){k:Nat}(hk:k<l.length){out:List (List Bool)}(I:PQ l k out) :
  PQ l (k+1) (out++[vj l.length (λi=>(decide (i=k)||(decide (i<k)&&(vS l k).any (λb=>cell out b i)))||(decide (i<k)&&(xc l k).any (λb=>cell out b i)))]):=by
 have hlen:=I.len
 let f0:Nat->Bool:=λx=>decide (x=k)
 let f1:Nat->Bool:=λi=>f0 i||(decide (i<k)&&(vS l k).any (λb=>cell out b i))
 let f2:Nat->Bool:=λi=>f1 i||(decide (i<k)&&(xc l k).any (λb=>cell out b i))
 show PQ l (k+1) (out++[vj l.length f2]);refine⟨by simp[hlen],λr hr=>?_,λj hj i=>?_⟩
 .rcases List.mem_append.1 hr with h|h
  .exact I.rows r h
  .simp at h;subst h;exact De _ _
 .have hold:∀b,b<k->∀i,cell (out++[vj l.length f2]) b i=cell out b i:=by
   intro b hb i;unfold cell;rw[List.getD_eq_getElem?_getD (l:=out++_),List.getElem?_append_left ah,<-List.getD_eq_getElem?_getD]
  have avA:∀m,m<=k->((vS l m).any (λb=>cell (out++[vj l.length f2]) b i)||(xc l m).any (λb=>cell (out++[vj l.length f2]) b i))=((vS l m).any (λb=>cell out b i)||(xc l m).any (λb=>cell out b i)):=by
   intro m hm;rw[EG (λb hb=>hold b (by have:=Yh hb;omega) i),EG (o:=xc l m) (λb hb=>hold b (by have:=Om hb;omega) i)]
  rw[avA j ah]
  by_cases e2:j=k
  .subst e2
   have:cell (out++[vj l.length f2]) j i=(decide (i<l.length)&&f2 i):=by
    unfold cell;rw[List.getD_eq_getElem?_getD (l:=out++_),List.getElem?_append_right ah];simp only[hlen,Nat.sub_self,List.getElem?_cons_zero,Option.getD_some];exact Zf _ _ _
   rw[this];show(decide (i<l.length)&&((decide (i=j)||(decide (i<j)&&(vS l j).any (λb=>cell out b i)))||(decide (i<j)&&(xc l j).any (λb=>cell out b i))))=_
   by_cases h1:i<l.length
   .simp only[h1,decide_true,Bool.true_and]
    cases decide (i=j) <;> cases decide (i<j) <;> simp
   .have h2:¬i=j:=by omega
    have h3:¬i<j:=ah;simp[h1,h2,h3]
  .rw[hold j ah,I.at' j ah]
theorem air{l:List AEv}(hl:l.length<=100000000000):Wp (pg l) λout=>PQ l l.length out:=by
 unfold pg;refine cC (λk s=>PQ l k s) (gq ah) ⟨rfl,(λr hr=>by cases hr),λj hj=>absurd hj (Nat.not_lt_zero _)⟩ ?_ (λs h=>cV (aj aep));intro k out hk I;have Cs:k<l.length:=ah;have hlen:=I.len;refine bO hk (λe he em=>aK qm (aX ?_));rw[Int.toNat_natCast,UM];refine bO (by rw[De];exact hk) (λ_ _ _=>aX ?_);have aiC:vS l k=qi (λx=>x.aN==e.aN) l k:=by unfold vS;rw[he]
 have avB:xc l k=qi (λx=>SJ e x) l k:=by unfold xc;rw[he]
 refine jR (λs=>∃i:Nat,i<=k∧s=(toI (qi (λx=>x.aN==e.aN) l i),toI (qi (λx=>SJ e x) l i),(i:Int))) (λs=>k-s.2.2.toNat) ⟨0,Nat.zero_le _,rfl⟩ bB ?_;rintro _ ⟨i,hi,rfl⟩;dsimp only;refine aq (λhb=>?_) (λhb=>aj ?_)
 .have hik:i<k:=by simpa using hb
  have hw:IntKind.wrap .i64 ((i:Int)+1)=((i+1:Nat):Int):=aem
  have K1:∀a,mM l e (toI (qi (λx=>SJ e x) l i)) (i:Int) a=some (.next (a,toI (qi (λx=>SJ e x) l (i+1)),((i+1:Nat):Int))):=by
   intro a;refine dD (bO ah (λy hy _=>aF (alm e y) ?_));rw[yK hy,hw];refine aq (λh=>ay (aj ?_)) (λh=>ay (aj ?_))
   .rw[if_pos h];rfl
   .rw[if_neg Kr]
  refine cX (bO ah (λy hy _=>aq (λh=>ay (Un (K1 _) ⟨⟨i+1,ah,?_⟩,?_⟩)) (λh=>ay (Un (K1 _) ⟨⟨i+1,ah,?_⟩,?_⟩))))
  .rw[yK (q:=λx=>x.aN==e.aN) hy,if_pos h];rfl
  .dsimp only;omega
  .rw[yK (q:=λx=>x.aN==e.aN) hy,if_neg Kr]
  .dsimp only;omega
 .obtain rfl:i=k:=by
   rcases Nat.lt_or_ge i k with q|q
   .have h2:(i:Int)<(k:Int):=by omega
    rw[decide_eq_true h2]at hb;cases hb
   .omega
  rw[<-aiC,<-avB];refine aX ?_
  have f0:List.set (vj l.length λ_=>false) (Int.toNat (i:Int)) true=vj l.length (λx=>decide (x=i)):=by
   rw[Int.toNat_natCast,Rr];exact JH λx _=>by by_cases h:x=i <;> simp[h]
  rw[f0]
  refine cC (λq s=>s=match q with
   |0=>vj l.length (λx=>decide (x=i))
   |1=>vj l.length (λx=>decide (x=i)||(decide (x<i)&&(vS l i).any (λb=>cell out b x)))
   |_=>vj l.length (λx=>(decide (x=i)||(decide (x<i)&&(vS l i).any (λb=>cell out b x)))||(decide (x<i)&&(xc l i).any (λb=>cell out b x)))) (show(2:Int)<=m64 by decide) rfl ?_ ?_
  .rintro q s hq rfl
   have hq2:q=0∨q=1:=by simp at hq;omega
   rcases hq2 with rfl|rfl
   .refine aF (x:=toI (vS l i)) rfl ?_
    exact WX hl Cs I.rows hlen (vS l i) (λb hb=>Yh hb) _ rfl
   .refine aF (x:=toI (xc l i)) rfl ?_
    exact WX hl Cs I.rows hlen (xc l i) (λb hb=>Om hb) _ rfl
  .rintro s rfl
   refine cV (aX (aK (apB SA aV) (ay (aj ?_))));exact aat hl Cs I
def lF(l:List AEv)(i:Nat):Int:=((l[i]?).map (·.aN)).getD (-1)
theorem UN{l:List AEv}{out:List (List Bool)}(I:PQ l l.length out):nH l.length (vS l) (xc l) (lF l) (cell out) where
 b1:=λj hj i h=>by
  unfold vS at h;have hx:l[j]? = some l[j]:=List.getElem?_eq_getElem hj;rw[hx]at h;obtain⟨a1,⟨x,a2,a3⟩,a4⟩:=uB h;refine⟨a1,?_,λk h1 h2=>?_⟩
  .simp only[lF,a2,hx,Option.map_some,Option.getD_some]
   simpa using a3
  .have hk:l[k]? = some (l[k]' ah):=List.getElem?_eq_getElem ah
   have:=a4 k h1 h2 _ hk;simp only[lF,hk,hx,Option.map_some,Option.getD_some];simpa using this
 b0:=λj hj h k hk=>by
  unfold vS at h;have hx:l[j]? = some l[j]:=List.getElem?_eq_getElem hj;rw[hx]at h;have hy:l[k]? = some (l[k]' ah):=List.getElem?_eq_getElem ah;have:=JY h k hk _ hy;simp only[lF,hy,hx,Option.map_some,Option.getD_some];simpa using this
 s1:=λj hj i h=>Om h
 p:=λj hj k=>I.at' j hj k
theorem Il{l:List AEv}{n:Int}(h1:1<=n)(h2:n<=8)(hc:∀e∈l,0<=e.aN∧e.aN<=n){cs:List VC}(c1:cs.length=l.length)(c2:∀j e,l[j]? = some e->cs[j]? = some (xh l cs j e))(c3:∀c∈cs,∀i,0<=c.ei i∧c.ei i<=(l.length:Int))
  {out:List (List Bool)} (I:PQ l l.length out) {j:Nat} (hj:j<l.length) {i:Nat} (hi:i<16):(cs.getD j zc).ei i=((xf (lF l) (cell out) l.length j (i:Int):Nat):Int):=by
 have hb:=Gl c3
 have key:=(UN I).cnt (C:=λj c=>if 0<=c∧c<16 then((cs.getD j zc).ei c.toNat).toNat else 0) (λj hj c=>by
  have hx:l[j]? = some l[j]:=List.getElem?_eq_getElem hj;have hcj:=hc l[j] (List.getElem_mem hj);have GC:lF l j=(l[j]).aN:=by simp[lF,hx]
  generalize l[j]=e at hx hcj GC;have hn:=c2 j e hx;have hg:cs.getD j zc=xh l cs j e:=by rw[List.getD_eq_getElem?_getD,hn];rfl
  have Yx:∀(o:Option Nat) (c:Int),o.elim 0 (λx=>if 0<=c∧c<16 then((cs.getD x zc).ei c.toNat).toNat else 0)=if 0<=c∧c<16 then((ya cs o).ei c.toNat).toNat else 0:=by
   intro o c;cases o with
   |none=>simp[ya,zc]
   |some x=>rfl
  rw[Yx,Yx,hg,GC]
  by_cases hr:0<=c∧c<16
  .rw[if_pos hr,if_pos hr,if_pos hr]
   have a1:=hb (vS l j) c.toNat;have a2:=hb (xc l j) c.toNat;unfold xh abK BC;simp only[tP]
   by_cases e1:c.toNat=e.aN.toNat
   .rw[if_pos e1,<-e1,if_pos (show c.toNat<16 by omega),if_pos (show c=e.aN by omega)]
    split <;> omega
   .rw[if_neg e1,if_pos (show c.toNat<16 by omega),if_neg (show ¬c=e.aN by omega)]
    split <;> omega
  .rw[if_neg hr,if_neg hr,if_neg hr,if_neg ah]
   rfl) j hj l.length (i:Int) hj
 simp only[Int.toNat_natCast]at key;rw[if_pos ah]at key;have:=(hb (some j) i).1;have e:(ya cs (some j))=cs.getD j zc:=rfl;rw[e]at this;omega
theorem Ht{l:List AEv}{n:Int}(h2:n<=8)(hc:∀e∈l,0<=e.aN∧e.aN<=n){k:Nat}(hk:k<l.length):0<=lF l k∧lF l k<=8:=by
 have hx:l[k]? = some l[k]:=List.getElem?_eq_getElem hk;have:=hc l[k] (List.getElem_mem hk);simp only[lF,hx,Option.map_some,Option.getD_some];omega
theorem ace{l:List AEv}{n:Int}(h2:n<=8)(hc:∀e∈l,0<=e.aN∧e.aN<=n)(p:Nat->Nat->Bool)(j:Nat){c:Int}(h:¬(0<=c∧c<16)):xf (lF l) p l.length j c=0:=by
 unfold xf;rw[List.countP_eq_zero];intro k hk;have:=Ht h2 hc (List.mem_range.1 hk);simp only[Bool.and_eq_true,beq_iff_eq,not_and];intro _ e;omega
theorem ah2{l:List AEv}{n:Int}(h1:1<=n)(h2:n<=8)(hc:∀e∈l,0<=e.aN∧e.aN<=n){cs:List VC}(C:alk l cs){out:List (List Bool)}(I:PQ l l.length out){i j:Nat}(hi:i<l.length)(hj:j<l.length)(DM:i≠j){a b:VC}(ha:cs[i]? = some a)(hb:cs[j]? = some b):Wp (pH a b) λr=>r=2↔i<j∧cell out j i=true:=by
 have H:=UN I
 have g:∀(x:Nat) (v:VC),x<l.length->cs[x]? = some v->∀c,c<16->v.ei c=((xf (lF l) (cell out) l.length x (c:Int):Nat):Int):=by
  intro x v hx hv c hc';have:=Il h1 h2 hc C.len C.at' C.bnd I hx hc';rw[List.getD_eq_getElem?_getD,hv]at this;exact this
 have ga:=g i a hi ha;have gb:=g j b hj hb;have key:=H.iff hi hj DM (A:=λc=>xf (lF l) (cell out) l.length i c) (B:=λc=>xf (lF l) (cell out) l.length j c) (λ_=>rfl) (λ_=>rfl);refine(Wf a b).imp λr hr=>hr.trans ⟨λh=>key.1.1 (λc=>?_),λh=>?_⟩
 .by_cases hr:0<=c∧c<16
  .have:=h.1 c.toNat ah
   rw[ga _ ah,gb _ ah,Int.toNat_of_nonneg hr.1]at this;omega
  .show xf _ _ _ _ _<=_
   rw[ace h2 hc _ _ hr];omega
 .have aaF:=key.1.2 h
  have hcj:=Ht h2 hc hj;refine⟨λc hc'=>by rw[ga c hc',gb c hc'];have:=aaF (c:Int);omega,(lF l j).toNat,ah,?_⟩;rw[ga _ ah,gb _ ah,Int.toNat_of_nonneg hcj.1];have:=key.2 aaF;omega
theorem ag4{l:List AEv}{n:Int}(h1:1<=n)(h2:n<=8)(hc:∀e∈l,0<=e.aN∧e.aN<=n){cs:List VC}(C:alk l cs){out:List (List Bool)}(I:PQ l l.length out){j:Nat}(hj:j<l.length){b:VC}(hb:cs[j]? = some b):b.ei (lF l j).toNat=(((List.range (j+1)).countP (λk=>lF l k==lF l j):Nat):Int):=by
 have hcj:=Ht h2 hc hj;have:=Il h1 h2 hc C.len C.at' C.bnd I hj (i:=(lF l j).toNat) ah;rw[List.getD_eq_getElem?_getD,hb,Int.toNat_of_nonneg hcj.1,(UN I).own hj]at this;exact this
theorem aib:sM=some true:=bp
structure aor(r:List AEv×Int×Bool)(N:Nat):Prop where
 a:1<=N
 b:N<=3
 n:r.2.1=(N:Int)
 ok:r.2.2=true
 len:r.1.length<=120
 ev:∀e∈r.1,afm N e
theorem SV{w:de}(hw:Jh w):Wp (nN w) λr=>∃N,aor r N:=by
 unfold nN;refine av (ais hw) ?_;rintro⟨I,x,b⟩ ⟨hI,hb⟩;dsimp only at hI hb |-;subst hb;refine aq (λh=>dI) (λ_=>av (aW (ak9 hI)) ?_);rintro _ ⟨r,rfl,hev,hlen⟩;refine EO (λq hq=>?_) (λq hq=>Hy);cases hq;refine aK ⟨aV,Io,Io⟩ (aF Fcs (aj ⟨fN I.eX,?_,hI.fl.n3,rfl,rfl,?_,λe he=>hev e (List.mem_of_mem_take he)⟩))
 .exact hI.fl.n1
 .rw[List.length_take];split <;> omega
theorem aaA{w:de}(hw:Jh w):lA w=some true:=by
 unfold lA;refine dD (aF aib (aq (λh=>dI) (λ_=>av (SV hw) ?_)));rintro⟨l0,n,ok⟩ ⟨N,N1,N3,hn,Ao,hl0,hev⟩;dsimp only at hn Ao hl0 hev |-;subst hn;subst Ao;refine aq (λh=>dI) (λ_=>aK ⟨aV,Io,Io⟩ ?_);obtain⟨l,hl⟩:∃l,List.take (Int.toNat (if 40<(l0.length:Int)then 40 else(l0.length:Int))) l0=l:=⟨_,rfl⟩;rw[hl];have hlen:l.length<=120:=by rw[<-hl,List.length_take];omega
 have hc:∀e∈l,0<=e.aN∧e.aN<=(N:Int):=λe he=>by
  rw[<-hl]at he;have:=(hev e (List.mem_of_mem_take he)).b;exact⟨this.c0,this.cN⟩
 have h1:(1:Int)<=(N:Int):=ah;have h2:(N:Int)<=8:=ah;refine av (aay ah h1 h2 hc) ?_;rintro _ ⟨cs,rfl,C⟩;have Em:=C.len;refine aq (λh=>by simp[Em]at h) (λ_=>av (air ah) (λout I=>?_));dsimp only;refine eS (λk s=>∀c:Nat,c<9->s c=(((List.range k).countP (λx=>lF l x==(c:Int)):Nat):Int)) (gq ah) (λc _=>rfl) ?_ (λ_ _=>aj rfl);intro k s hk hs;have Cs:k<l.length:=ah;refine bO hk (λe he em=>?_);obtain⟨e0,e8⟩:=hc e em;have xW:oO 9 e.aN:=⟨e0,ah⟩;have GC:lF l k=e.aN:=by simp[lF,he]
 refine aK xW (fH (aK xW (fH (nY (bO ah (λv hv _=>?_))))));have avD:=List.countP_le_length (p:=λx=>lF l x==((e.aN.toNat:Nat):Int)) (l:=List.range k);rw[List.length_range]at avD;have hse:=hs e.aN.toNat ah
 have hw1:IntKind.wrap .u64 (s (Int.toNat e.aN)+1)=(((List.range (k+1)).countP (λx=>lF l x==lF l k):Nat):Int):=by
  rw[hse,wrap_u64 ah ah,List.range_succ,List.countP_append,GC,Int.toNat_of_nonneg e0];simp[GC]
 refine aF (x:=v.ei e.aN.toNat) ?_ (aK xW (fH (aq (λh=>?_) (λ_=>?_))))
 .unfold VClk_Get
  exact dD (aq (λh=>EE) (λ_=>aK ⟨e0,ah⟩ (fH (aj rfl))))
 .have:=ag4 h1 h2 hc C I Cs hv
  rw[GC]at this;rw[hw1,GC]at h;simp[tP,this]at h
 refine eS (λ_ _=>True) (gq ah) trivial ?_ (λ_ _=>ay (aj ?_))
 .intro i _ hi _
  have EH:i<l.length:=ah
  by_cases e:i=k
  .subst e
   have nq:((i:Int) != (i:Int))=false:=aR;rw[nq];refine aF rfl (aF rfl (aF rfl (aF rfl (aq (λh=>AV) (λ_=>ay (aj trivial))))))
  .have nq:((i:Int) != (k:Int))=true:=by simp;omega
   rw[nq];obtain⟨a,ha⟩:∃a,cs[i]? = some a:=⟨cs[i]' ah,List.getElem?_eq_getElem ah⟩;refine aF (x:=a) (by simp only[gb,if_true];rw[fW,ha]) (av (by simp only[gb,if_true];exact ah2 h1 h2 hc C I EH Cs e ha hv) (λq hq=>?_));obtain⟨row,IQ⟩:∃row,out[k]? = some row:=⟨out[k]'(by rw[I.len];omega),List.getElem?_eq_getElem (by rw[I.len];omega)⟩;have hrl:=I.rows row (List.mem_of_getElem? IQ)
   have KK:row[i]? = some (cell out k i):=by
    unfold cell;rw[List.getD_eq_getElem?_getD (l:=out),IQ];simp only[Option.getD_some];rw[List.getD_eq_getElem?_getD,List.getElem?_eq_getElem ah];rfl
   by_cases hik:i<k
   .have hd:decide ((i:Int)<(k:Int))=true:=by simp;omega
    rw[hd];refine aF (x:=row) (by simp only[gb,Bool.and_true,if_true];rw[fW,IQ]) (aF (x:=cell out k i) (by simp only[gb,Bool.and_true,if_true];rw[fW,KK]) (aq (λh=>?_) (λ_=>ay (aj trivial))))
    exfalso
    have:(q==2)=cell out k i:=by
     rw[Bool.eq_iff_iff,beq_iff_eq,hq];simp[hik]
    rw[this]at h;simp at h
   .have hd:decide ((i:Int)<(k:Int))=false:=by simp;omega
    rw[hd];refine aF rfl (aF rfl (aq (λh=>?_) (λ_=>ay (aj trivial))))
    exfalso
    have:(q==2)=false:=by
     rw[Bool.eq_false_iff];intro h2';exact hik (hq.1 (by simpa using h2')).1
    rw[this]at h;simp at h
 .intro c hc9
  rw[List.range_succ,List.countP_append]
  by_cases e:c=e.aN.toNat
  .subst e
   show tP s _ _ _=_;simp only[tP,if_true];rw[hw1,List.range_succ,List.countP_append,GC,Int.toNat_of_nonneg e0]
  .show tP s _ _ _=_
   simp only[tP,if_neg e];rw[hs c hc9];have:¬lF l k=(c:Int):=by rw[GC];omega
   simp[this]
end Go.Proofs.YtaafmkmdfcgeaaaGreatDoor
